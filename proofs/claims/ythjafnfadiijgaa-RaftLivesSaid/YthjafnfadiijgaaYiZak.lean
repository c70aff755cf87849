/- A part of the proof of statements of this seat: lemmas, no statement of their own. -/
import Derived.Test.YthjafnfadiijgaaYiZaj
import Derived.Test.YthjafnfadiijgaaYiZai
import Derived.Test.YthjafnfadiijgaaYiZad
import Derived.Test.YthjafnfadiijgaaYiZae
import Derived.Test.YthjafnfadiijgaaYiZac
import Derived.Test.YthjafnfadiijgaaYiZab
set_option linter.unusedVariables false
set_option linter.unusedSimpArgs false
set_option maxRecDepth 100000
set_option maxHeartbeats 1000000
section
namespace Go.Q.Yi
open Go.Sort
/-! ### the heap -/
theorem BL (hi first root:Nat) (d:Array Int):siftDown ltInt hi first root d=if hi<=2 * root + 1 then d else
    if ltInt d[first + root]! d[first + (if 2 * root + 2 < hi/\ltInt d[first + (2 * root + 1)]! d[first + (2 * root + 1) + 1]! = true then 2 * root + 2 else 2 * root + 1)]! = true then
      siftDown ltInt hi first (if 2 * root + 2 < hi/\ltInt d[first + (2 * root + 1)]! d[first + (2 * root + 1) + 1]! = true then 2 * root + 2 else 2 * root + 1) (swp d (first + root) (first + (if 2 * root + 2 < hi/\ltInt d[first + (2 * root + 1)]! d[first + (2 * root + 1) + 1]! = true then 2 * root + 2 else 2 * root + 1))) else d:=by
  rw [siftDown]
  by_cases h1:hi<=2 * root + 1
  · rw [dif_pos h1,if_pos h1]
  rw [dif_neg h1,if_neg h1]
  by_cases h2:2 * root + 2 < hi/\ltInt d[first + (2 * root + 1)]! d[first + (2 * root + 1) + 1]! = true
  · rw [if_pos (by simp; exact ⟨by omega,h2.2⟩),if_pos h2]
    cases h3:ltInt d[first + root]! d[first + (2 * root + 2)]! with
    | true=>rw [if_neg (by simp),dif_pos h2.1,if_pos rfl]
    | false=>rw [if_pos (by simp),if_neg (by simp)]
  · rw [if_neg (by simp; intro h; cases h4:ltInt d[first + (2 * root + 1)]! d[first + (2 * root + 1) + 1]! with
                   | true=>exact absurd ⟨by omega,h4⟩ h2
                   | false=>rfl),if_neg h2]
    cases h3:ltInt d[first + root]! d[first + (2 * root + 1)]! with
    | true=>rw [if_neg (by simp),if_pos rfl]
    | false=>rw [if_pos (by simp),if_neg (by simp)]
section
variable {B:Nat} {h:Heap} {s:Slc} {d:Array Int} {a b:Nat}
theorem EF {lo hi first:Nat} {k:KP Unit} (R:U64 B h s d) (hs:first + hi<=d.size) (hl:lo<=1000) (hz:d.size<=1000) (H:∀ h',U64 B h' s (siftDown ltInt hi first lo d)->Onl s h h'->k () h'):cK s lo hi first k h:=by
  unfold cK jU
  refine ⟨fun r h'=>∃ d',U64 B h' s d'/\d'.size=d.size/\Onl s h h'/\0<=r/\r<=1000/\siftDown ltInt hi first r.toNat d'=siftDown ltInt hi first lo d,fun r _=>(hi - r).toNat,⟨d,R,rfl,Onl.refl _ _,by omega,by omega,by rw [Int.toNat_natCast]⟩,?_⟩
  rintro r h1 ⟨d1,R1,z1,O1,r0,r1,e1⟩
  rw [BL] at e1
  unfold jN
  rw [az (x:=2 * r) (by omega) (by omega),az (by omega) (by omega)]
  refine ⟨_,rfl,?_⟩
  by_cases hd:2 * r + 1>=(hi:Int)
  · rw [if_pos (decide_eq_true hd)]
    rw [if_pos (by omega)] at e1
    rw [e1] at R1
    exact H h1 R1 O1
  rw [if_neg (by rw [decide_eq_true_eq]; exact hd)]
  rw [if_neg (by omega)] at e1
  have j2:∀ c:Nat,(c=if 2 * r.toNat + 2 < hi/\ltInt d1[first + (2 * r.toNat + 1)]! d1[first + (2 * r.toNat + 1) + 1]! = true then 2 * r.toNat + 2 else 2 * r.toNat + 1)->c < hi->bL s hi first r c k (fun r' h'=>(∃ d',U64 B h' s d'/\d'.size=d.size/\Onl s h h'/\0<=r'/\r'<=1000/\siftDown ltInt hi first r'.toNat d'=siftDown ltInt hi first lo d)/\((hi:Int) - r').toNat < ((hi:Int) - r).toNat) h1:=fun c hc ch=>by
    rw [← hc] at e1
    have cr:r < c:=by rw [hc]; split <;> omega
    unfold bL
    rw [az (by omega) (by omega),az (by omega) (by omega)]
    refine qE R1 ⟨by omega,by omega⟩ ⟨by omega,by omega⟩ ?_
    have ei:((first:Int) + r).toNat=first + r.toNat:=by omega
    have ej:((first:Int) + c).toNat=first + c:=by omega
    cases hl:ltInt d1[((first:Int) + r).toNat]! d1[((first:Int) + c).toNat]! with
    | false =>
      rw [ei,ej] at hl
      rw [if_neg (by rw [hl]; simp)] at e1
      rw [if_pos (by simp)]
      rw [e1] at R1
      exact H h1 R1 O1
    | true =>
      rw [ei,ej] at hl
      rw [if_pos hl] at e1
      rw [if_neg (by simp)]
      refine qC R1 (I:=(first:Int) + c) (J:=(first:Int) + r) ⟨by omega,by omega⟩ ⟨by omega,by omega⟩ fun h2 R2 O2=>?_
      rw [ei,ej] at R2
      exact ⟨⟨_,R2,by rw [mY,z1],O1.trans O2,by omega,by omega,by rw [Int.toNat_natCast]; exact e1⟩,by omega⟩
  have j3:∀ f:Bool,(f=true ↔ 2 * r.toNat + 2 < hi/\ltInt d1[first + (2 * r.toNat + 1)]! d1[first + (2 * r.toNat + 1) + 1]! = true)->bM s hi first r (2 * r + 1) f k (fun r' h'=>(∃ d',U64 B h' s d'/\d'.size=d.size/\Onl s h h'/\0<=r'/\r'<=1000/\siftDown ltInt hi first r'.toNat d'=siftDown ltInt hi first lo d)/\((hi:Int) - r').toNat < ((hi:Int) - r).toNat) h1:=fun f hf=>by
    unfold bM
    cases f with
    | true =>
      rw [if_pos rfl,az (by omega) (by omega)]
      refine ⟨_,rfl,?_⟩
      have:=hf.1 rfl
      have:=j2 (2 * r.toNat + 2) (by rw [if_pos this]) this.1
      rw [show ((2 * r.toNat + 2:Nat):Int)=2 * r + 1 + 1 from by omega] at this
      exact this
    | false =>
      rw [if_neg (by simp)]
      have hn:¬ (2 * r.toNat + 2 < hi/\ltInt d1[first + (2 * r.toNat + 1)]! d1[first + (2 * r.toNat + 1) + 1]! = true):=fun e=>by have:=hf.2 e; cases this
      have:=j2 (2 * r.toNat + 1) (by rw [if_neg hn]) (by omega)
      rw [show ((2 * r.toNat + 1:Nat):Int)=2 * r + 1 from by omega] at this
      exact this
  rw [az (by omega) (by omega)]
  by_cases h2:2 * r + 1 + 1 < (hi:Int)
  · rw [if_pos (decide_eq_true h2),az (x:=(first:Int) + (2 * r + 1)) (by omega) (by omega),az (by omega) (by omega)]
    refine qE R1 ⟨by omega,by omega⟩ ⟨by omega,by omega⟩ ?_
    rw [show ((first:Int) + (2 * r + 1)).toNat=first + (2 * r.toNat + 1) from by omega,show ((first:Int) + (2 * r + 1) + 1).toNat=first + (2 * r.toNat + 1) + 1 from by omega]
    exact j3 _ ⟨fun e=>⟨by omega,e⟩,fun e=>e.2⟩
  · rw [if_neg (by rw [decide_eq_true_eq]; exact h2)]
    exact j3 false ⟨fun e=>Bool.noConfusion e,fun e=>absurd e.1 (by omega)⟩
theorem xz:∀ (n hi first root:Nat) (d:Array Int),hi - root<=n->(siftDown ltInt hi first root d).size=d.size
  | 0,hi,first,root,d,hn=>by rw [BL,if_pos (by omega)]
  | n + 1,hi,first,root,d,hn=>by
    rw [BL]
    by_cases h1:hi<=2 * root + 1
    · rw [if_pos h1]
    rw [if_neg h1]
    obtain ⟨c,hc⟩:∃ c,c=if 2 * root + 2 < hi/\ltInt d[first + (2 * root + 1)]! d[first + (2 * root + 1) + 1]! = true then 2 * root + 2 else 2 * root + 1:=⟨_,rfl⟩
    rw [← hc]
    have cr:root < c:=by rw [hc]; split <;> omega
    by_cases h2:ltInt d[first + root]! d[first + c]! = true
    · rw [if_pos h2,xz n _ _ _ _ (by omega),mY]
    · rw [if_neg h2]
theorem II {k:KP Unit} (R:U64 B h s d) (ab:a < b) (hs:b<=d.size) (hz:d.size<=1000) (H:∀ h',U64 B h' s (heapSort ltInt d a b)->Onl s h h'->k () h'):dW s a b k h:=by
  unfold dW
  rw [az (x:=(b:Int) - a) (by omega) (by omega)]
  refine ⟨_,rfl,?_⟩
  rw [az (x:=(b:Int) - a - 1) (by omega) (by omega),Int.tdiv_eq_ediv_of_nonneg (by omega),az (by omega) (by omega)]
  refine ⟨_,rfl,?_⟩
  have en:(b:Int) - a=((b - a:Nat):Int):=by omega
  rw [en]
  unfold heapSort at H
  generalize hF:heapBuild ltInt (b - a) a ((b - a - 1) / 2 + 1) d=F at *
  unfold jY
  refine ⟨fun i h'=>∃ d',U64 B h' s d'/\d'.size=d.size/\Onl s h h'/\-1<=i/\i<=b/\heapBuild ltInt (b - a) a (i + 1).toNat d'=F,fun i _=>(i + 1).toNat,
    ⟨d,R,rfl,Onl.refl _ _,by omega,by omega,by rw [show ((((b - a:Nat):Int) - 1) / 2 + 1).toNat=(b - a - 1) / 2 + 1 from by omega]; exact hF⟩,?_⟩
  rintro i h1 ⟨d1,R1,z1,O1,i0,iB,e1⟩
  unfold jP
  by_cases hi:i>=0
  · rw [if_pos (decide_eq_true hi)]
    rw [show (i + 1).toNat=i.toNat + 1 from by omega] at e1
    have ei:((i.toNat:Nat):Int)=i:=by omega
    rw [← ei]
    refine EF R1 (by omega) (by omega) (by omega) fun h2 R2 O2=>?_
    rw [ei,az (by omega) (by omega)]
    refine ⟨_,rfl,⟨_,R2,by rw [xz _ _ _ _ _ (Nat.le_refl _),z1],O1.trans O2,by omega,by omega,?_⟩,by dsimp only; omega⟩
    rw [show (i - 1 + 1).toNat=i.toNat from by omega]
    exact e1
  rw [if_neg (by rw [decide_eq_true_eq]; exact hi)]
  rw [show (i + 1).toNat=0 from by omega] at e1
  change d1=F at e1
  subst e1
  rw [az (by omega) (by omega)]
  refine ⟨_,rfl,?_⟩
  generalize hG:heapPop ltInt a (b - a) d1=G at *
  unfold ko
  refine ⟨fun i h'=>∃ d',U64 B h' s d'/\d'.size=d.size/\Onl s h h'/\-1<=i/\i < (b - a:Nat)/\heapPop ltInt a (i + 1).toNat d'=G,fun i _=>(i + 1).toNat,
    ⟨d1,R1,z1,O1,by omega,by omega,by rw [show (((b - a:Nat):Int) - 1 + 1).toNat=b - a from by omega]; exact hG⟩,?_⟩
  rintro i h2 ⟨d2,R2,z2,O2,i0,iB,e2⟩
  unfold jO
  by_cases hi:i>=0
  · rw [if_pos (decide_eq_true hi)]
    rw [show (i + 1).toNat=i.toNat + 1 from by omega] at e2
    rw [az (by omega) (by omega)]
    refine qC R2 (I:=(a:Int) + i) (J:=a) ⟨by omega,by omega⟩ ⟨by omega,by omega⟩ fun h3 R3 O3=>?_
    rw [Int.toNat_natCast,show ((a:Int) + i).toNat=a + i.toNat from by omega] at R3
    have ei:((i.toNat:Nat):Int)=i:=by omega
    have z3:(swp d2 a (a + i.toNat)).size=d.size:=by rw [mY,z2]
    rw [← ei]
    refine EF (lo:=0) R3 (by omega) (by omega) (by omega) fun h4 R4 O4=>?_
    rw [ei,az (by omega) (by omega)]
    refine ⟨_,rfl,⟨_,R4,by rw [xz _ _ _ _ _ (Nat.le_refl _),z3],O2.trans (O3.trans O4),by omega,by omega,?_⟩,by dsimp only; omega⟩
    rw [show (i - 1 + 1).toNat=i.toNat from by omega]
    exact e2
  · rw [if_neg (by rw [decide_eq_true_eq]; exact hi)]
    rw [show (i + 1).toNat=0 from by omega] at e2
    change d2=G at e2
    subst e2
    exact H h2 R2 O2
/-! ### turned about, stirred, and where the pivot is -/
theorem Lr {k:KP Unit} (R:U64 B h s d) (ab:a<=b) (hs:b<=d.size) (hz:d.size<=1000) (H:∀ d' h',U64 B h' s d'->PermIn a b d d'->Onl s h h'->k () h'):dw s a b k h:=by
  unfold dw
  rw [az (by omega) (by omega)]
  refine ⟨_,rfl,?_⟩
  unfold iR
  refine ⟨fun st h'=>∃ d',U64 B h' s d'/\PermIn a b d d'/\Onl s h h'/\(a:Int)<=st.1/\st.2<=(b:Int) - 1/\st.1<=1000/\-1<=st.2,fun st _=>(st.2 - st.1).toNat,⟨d,R,permIn_refl d a b,Onl.refl _ _,by dsimp only; omega,by dsimp only; omega,by dsimp only; omega,by dsimp only; omega⟩,?_⟩
  rintro i j h1 ⟨d1,R1,P1,O1,i0,jB,iB,j0⟩
  dsimp only at i0 jB iB j0
  have z1:=P1.1
  unfold iN
  by_cases hij:i < j
  · rw [if_pos (decide_eq_true hij)]
    refine qC R1 (I:=j) (J:=i) ⟨by omega,by omega⟩ ⟨by omega,by omega⟩ fun h2 R2 O2=>?_
    rw [az (by omega) (by omega),az (by omega) (by omega)]
    exact ⟨_,rfl,_,rfl,⟨_,R2,permIn_trans _ _ _ a b P1 (swp_permIn d1 a b i.toNat j.toNat (by omega) (by omega) (by omega) (by omega) (by omega)),O1.trans O2,by dsimp only; omega,by dsimp only; omega,by dsimp only; omega,by dsimp only; omega⟩,by dsimp only; omega⟩
  · rw [if_neg (by rw [decide_eq_true_eq]; exact hij)]
    exact H d1 h1 R1 P1 O1
theorem U64.other {h':Heap} {c E:Nat} {cs:List Value} (R:U64 B h s d) (T:Blk h c cs E) (hE:22≠E) (U:Upd c h h'):U64 B h' s d :=
  Row.keep R fun g hg=>U.block g (R.bd hg).2 fun e=>R.aZ T hE (e ▸ hg)
theorem Jo {c:Nat} {v:Int} {k:KP Int} (T:Blk h c [.int .u64 v] 159) (H:∀ r h',(0<=r/\r < 18446744073709551616)->Blk h' c [.int .u64 r] 159->Upd c h h'->k r h'):kv (some ⟨c,0,none⟩) k h:=by
  unfold kv
  have up:∀ (h1:Heap) w,Upd c h1 (setH h1 ⟨c,0,none⟩ w):=fun h1 w=>⟨by rw [jQ]; exact Nat.le_refl _,fun i _ hi=>jg hi⟩
  have c0:∀ {h1:Heap} {w:Int},Blk h1 c [.int .u64 w] 159->af h1 ⟨c,0,none⟩=some (.int .u64 w):=fun K=>by rw [K.cell]; rfl
  have st:∀ {h1:Heap} {w x:Int},Blk h1 c [.int .u64 w] 159->Blk (setH h1 ⟨c,0,none⟩ (.int .u64 x)) c [.int .u64 x] 159:=fun K=>K.set
  have T1:=st (x:=wV .u64 v (shl .u64 v (13:Int).toNat)) T
  refine ⟨_,rfl,v,c0 T,v,c0 T,_,T.wr (by simp),rfl,?_⟩
  generalize wV .u64 v (shl .u64 v (13:Int).toNat)=v1 at *
  have T2:=st (x:=wV .u64 v1 (shr .u64 v1 (7:Int).toNat)) T1
  refine ⟨v1,c0 T1,v1,c0 T1,_,T1.wr (by simp),rfl,?_⟩
  generalize wV .u64 v1 (shr .u64 v1 (7:Int).toNat)=v2 at *
  have T3:=st (x:=wV .u64 v2 (shl .u64 v2 (17:Int).toNat)) T2
  refine ⟨v2,c0 T2,v2,c0 T2,_,T2.wr (by simp),rfl,_,c0 T3,?_⟩
  refine H _ _ ?_ T3 ((up _ _).trans ((up _ _).trans (up _ _)))
  unfold wV
  rw [KR]
  omega
theorem Gw {k:KP Unit} (R:U64 B h s d) (ab:a<=b) (hs:b<=d.size) (hz:d.size<=32) (H:∀ d' h',U64 B h' s d'->PermIn a b d d'->Onl s h h'->k () h'):df s a b k h:=by
  unfold df
  rw [az (x:=(b:Int) - a) (by omega) (by omega)]
  refine ⟨_,rfl,?_⟩
  by_cases h8:(b:Int) - a>=8
  · rw [if_pos (decide_eq_true h8)]
    refine ⟨_,_,rfl,rfl,?_⟩
    have T0:=Blk.push h ([.int .u64 0]:List Value) 159
    have E1:=Ext.push h (.cells ([.int .u64 0]:List Value).toArray 159) (Nat.le_refl h.size)
    have R1:=R.pushed (.cells ([.int .u64 0]:List Value).toArray 159)
    generalize h.push (.cells ([.int .u64 0]:List Value).toArray 159)=h1 at *
    refine ⟨_,T0.wr (by simp),rfl,?_⟩
    rw [aY (by omega) (by omega)]
    have T1:Blk (setH h1 ⟨h.size,0,none⟩ (.int .u64 ((b:Int) - a))) h.size [.int .u64 ((b:Int) - a)] 159:=T0.set
    have U1:Upd h.size h1 (setH h1 ⟨h.size,0,none⟩ (.int .u64 ((b:Int) - a))):=⟨by rw [jQ]; exact Nat.le_refl _,fun i _ hi=>jg hi⟩
    have R2:U64 B (setH h1 ⟨h.size,0,none⟩ (.int .u64 ((b:Int) - a))) s d:=U64.other R1 T0 (by decide) U1
    have O2:Onl s h (setH h1 ⟨h.size,0,none⟩ (.int .u64 ((b:Int) - a))):=⟨by rw [jQ]; exact E1.size,fun g hg _=>(U1.block g (by have:=E1.size; omega) (by omega)).trans (E1.block g hg)⟩
    generalize setH h1 ⟨h.size,0,none⟩ (.int .u64 ((b:Int) - a))=h2 at *
    unfold lZ
    have en:(b:Int) - a=((b - a:Nat):Int):=by omega
    rw [en,aY (by omega) (by omega)]
    refine Ig (by omega) ?_
    have hm:2 ^ bitsLen (b - a)<=2 * (b - a)/\0 < 2 ^ bitsLen (b - a):=by
      have key:(List.range 33).all (fun n=>decide (n < 8∨(2 ^ bitsLen n<=2 * n/\0 < 2 ^ bitsLen n)))=true:=by decide +kernel
      have:=List.all_eq_true.1 key (b - a) (by simp; omega)
      rw [decide_eq_true_eq] at this
      omega
    have hb6:bitsLen (b - a)<=8:=by
      have key:(List.range 33).all (fun n=>decide (bitsLen n<=8))=true:=by decide +kernel
      have:=List.all_eq_true.1 key (b - a) (by simp; omega)
      simpa using this
    have es:shl .u64 1 ((bitsLen (b - a):Nat):Int).toNat=((2 ^ bitsLen (b - a):Nat):Int):=by
      unfold shl
      rw [Int.toNat_natCast,show min (bitsLen (b - a)) IntKind.u64.bits=bitsLen (b - a) from Nat.min_eq_left (by show _<=64; omega),Int.one_mul]
      have:((2:Int) ^ bitsLen (b - a))=((2 ^ bitsLen (b - a):Nat):Int):=by simp
      rw [this]
      generalize 2 ^ bitsLen (b - a)=P at *
      rw [aY (by omega) (by omega)]
    refine ⟨by omega,_,rfl,?_⟩
    rw [es]
    generalize 2 ^ bitsLen (b - a)=P at *
    have et:Int.tdiv ((b - a:Nat):Int) 4=((b - a:Nat):Int) / 4:=Int.tdiv_eq_ediv_of_nonneg (by omega)
    rw [et,az (x:=((b - a:Nat):Int) / 4) (by omega) (by omega),az (x:=((b - a:Nat):Int) / 4 * 2) (by omega) (by omega),az (x:=(a:Int) + ((b - a:Nat):Int) / 4 * 2) (by omega) (by omega),az (by omega) (by omega)]
    refine ⟨_,rfl,?_⟩
    unfold iK
    refine ⟨fun i h'=>∃ d' v,U64 B h' s d'/\PermIn a b d d'/\Onl s h h'/\Blk h' h.size [.int .u64 v] 159/\(a:Int) + ((b - a:Nat):Int) / 4 * 2 - 1<=i/\i<=(a:Int) + ((b - a:Nat):Int) / 4 * 2 + 2,fun i _=>((a:Int) + ((b - a:Nat):Int) / 4 * 2 + 2 - i).toNat,
      ⟨d,_,R2,permIn_refl d a b,O2,T1,by omega,by omega⟩,?_⟩
    rintro i h3 ⟨d3,v,R3,P3,O3,T3,i0,iB⟩
    have z3:=P3.1
    unfold iI
    rw [et,az (x:=((b - a:Nat):Int) / 4) (by omega) (by omega),az (x:=((b - a:Nat):Int) / 4 * 2) (by omega) (by omega),az (x:=(a:Int) + ((b - a:Nat):Int) / 4 * 2) (by omega) (by omega),az (x:=(a:Int) + ((b - a:Nat):Int) / 4 * 2 + 1) (by omega) (by omega)]
    by_cases hi:i<=(a:Int) + ((b - a:Nat):Int) / 4 * 2 + 1
    · rw [if_pos (decide_eq_true hi)]
      refine Jo T3 fun r h4 hr T4 U4=>?_
      have R4:=U64.other R3 T3 (by decide) U4
      have O4:Onl s h h4:=⟨Nat.le_trans O3.size U4.size,fun g hg hne=>(U4.block g (by have:=O3.size; omega) (by omega)).trans (O3.block g hg hne)⟩
      have j2:∀ o:Nat,o < b - a->bC s a ((b - a:Nat):Int) ⟨h.size,0,none⟩ (P:Int) i o k (fun i' h'=>(∃ d' v,U64 B h' s d'/\PermIn a b d d'/\Onl s h h'/\Blk h' h.size [.int .u64 v] 159/\(a:Int) + ((b - a:Nat):Int) / 4 * 2 - 1<=i'/\i'<=(a:Int) + ((b - a:Nat):Int) / 4 * 2 + 2)/\((a:Int) + ((b - a:Nat):Int) / 4 * 2 + 2 - i').toNat < ((a:Int) + ((b - a:Nat):Int) / 4 * 2 + 2 - i).toNat) h4:=fun o ho=>by
        unfold bC
        rw [az (by omega) (by omega)]
        refine qC R4 (I:=(a:Int) + o) (J:=i) ⟨by omega,by omega⟩ ⟨by omega,by omega⟩ fun h5 R5 O5=>?_
        rw [az (by omega) (by omega)]
        exact ⟨_,rfl,⟨_,_,R5,permIn_trans _ _ _ a b P3 (swp_permIn d3 a b i.toNat ((a:Int) + o).toNat (by omega) (by omega) (by omega) (by omega) (by omega)),O4.trans O5,T4.old (O5.block _ T4.lt (R4.aZ T4 (by decide))),by omega,by omega⟩,by omega⟩
      have ew:IntKind.i64.wrap (kE .u64 r (IntKind.u64.wrap ((P:Int) - 1)))=((r.toNat &&& (P - 1):Nat):Int):=by
        have h1:=sS (a:=r.toNat) (b:=P - 1) (by omega) (by omega)
        rw [show ((r.toNat:Nat):Int)=r from by omega,show ((P - 1:Nat):Int)=(P:Int) - 1 from by omega] at h1
        have h2:r.toNat &&& (P - 1)<=P - 1:=Nat.and_le_right
        rw [aY (by omega) (by omega),h1,az (by omega) (by omega)]
      rw [ew]
      have h2:r.toNat &&& (P - 1)<=P - 1:=Nat.and_le_right
      generalize r.toNat &&& (P - 1)=o at *
      refine ⟨_,rfl,?_⟩
      by_cases ho:(o:Int)>=((b - a:Nat):Int)
      · rw [if_pos (decide_eq_true ho),az (by omega) (by omega)]
        refine ⟨_,rfl,?_⟩
        have:=j2 (o - (b - a)) (by omega)
        rw [show ((o - (b - a):Nat):Int)=(o:Int) - ((b - a:Nat):Int) from by omega] at this
        exact this
      · rw [if_neg (by rw [decide_eq_true_eq]; exact ho)]
        exact j2 o (by omega)
    · rw [if_neg (by rw [decide_eq_true_eq]; exact hi)]
      exact H d3 h3 R3 P3 O3
  · rw [if_neg (by rw [decide_eq_true_eq]; exact h8)]
    exact H d h R (permIn_refl d a b) (Onl.refl _ _)
theorem BO {c:Nat} {v:Int} {x y:Int} {k:KP (Int × Int)} (R:U64 B h s d) (T:Blk h c [.int .i64 v] 3) (hx:0<=x/\x < d.size) (hy:0<=y/\y < d.size)
    (H:∀ r h' v',(r=(x,y)∨r=(y,x))->U64 B h' s d->Blk h' c [.int .i64 v'] 3->Upd c h h'->k r h'):bR s x y (some ⟨c,0,none⟩) k h:=by
  unfold bR
  refine qE R hy hx ?_
  cases ltInt d[y.toNat]! d[x.toNat]! with
  | true =>
    rw [if_pos rfl]
    refine ⟨_,rfl,v,by rw [T.cell]; rfl,_,T.wr (by simp),rfl,?_⟩
    have U:Upd c h (setH h ⟨c,0,none⟩ (.int .i64 (IntKind.i64.wrap (v + 1)))):=⟨by rw [jQ]; exact Nat.le_refl _,fun i _ hi=>jg hi⟩
    exact H _ _ _ (.inr rfl) (U64.other R T (by decide) U) T.set U
  | false =>
    rw [if_neg (by simp)]
    exact H _ _ _ (.inl rfl) R T (Upd.refl _ _)
theorem KS {c:Nat} {v:Int} {x y z:Int} {k:KP Int} (R:U64 B h s d) (T:Blk h c [.int .i64 v] 3) (hx:0<=x/\x < d.size) (hy:0<=y/\y < d.size) (hz:0<=z/\z < d.size)
    (H:∀ r h' v',(r=x∨r=y∨r=z)->U64 B h' s d->Blk h' c [.int .i64 v'] 3->Upd c h h'->k r h'):dF s x y z (some ⟨c,0,none⟩) k h:=by
  unfold dF
  refine BO R T hx hy fun r1 h1 v1 e1 R1 T1 U1=>?_
  have q1:(r1.1=x∨r1.1=y)/\(r1.2=x∨r1.2=y):=by rcases e1 with rfl | rfl <;> simp
  refine BO R1 T1 (by rcases q1.2 with e | e <;> rw [e] <;> assumption) hz fun r2 h2 v2 e2 R2 T2 U2=>?_
  have q2:r2.1=x∨r2.1=y∨r2.1=z:=by
    rcases e2 with rfl | rfl
    · rcases q1.2 with e | e
      · exact .inl e
      · exact .inr (.inl e)
    · exact .inr (.inr rfl)
  refine BO R2 T2 (by rcases q1.1 with e | e <;> rw [e] <;> assumption) (by rcases q2 with e | e | e <;> rw [e] <;> assumption) fun r3 h3 v3 e3 R3 T3 U3=>?_
  refine H _ h3 v3 ?_ R3 T3 (U1.trans (U2.trans U3))
  rcases e3 with rfl | rfl
  · exact q2
  · rcases q1.1 with e | e
    · exact .inl e
    · exact .inr (.inl e)
theorem G9 {k:KP (Int × Int)} (R:U64 B h s d) (ab:a < b) (hs:b<=d.size) (hz:d.size<=32) (H:∀ (p:Nat) (hint:Int) h',a<=p->p < b->U64 B h' s d->Onl s h h'->k ((p:Int),hint) h'):dI s a b k h:=by
  unfold dI
  rw [az (x:=(b:Int) - a) (by omega) (by omega)]
  refine ⟨_,rfl,_,_,rfl,rfl,?_⟩
  have T0:=Blk.push h ([.int .i64 0]:List Value) 3
  have E1:=Ext.push h (.cells ([.int .i64 0]:List Value).toArray 3) (Nat.le_refl h.size)
  have R1:=R.pushed (.cells ([.int .i64 0]:List Value).toArray 3)
  generalize h.push (.cells ([.int .i64 0]:List Value).toArray 3)=h1 at *
  have et:Int.tdiv ((b:Int) - a) 4=((b:Int) - a) / 4:=Int.tdiv_eq_ediv_of_nonneg (by omega)
  rw [et,az (x:=((b:Int) - a) / 4) (by omega) (by omega),az (x:=((b:Int) - a) / 4 * 1) (by omega) (by omega),az (x:=((b:Int) - a) / 4 * 2) (by omega) (by omega),az (x:=((b:Int) - a) / 4 * 3) (by omega) (by omega)]
  rw [az (x:=(a:Int) + ((b:Int) - a) / 4 * 1) (by omega) (by omega),az (x:=(a:Int) + ((b:Int) - a) / 4 * 2) (by omega) (by omega),az (x:=(a:Int) + ((b:Int) - a) / 4 * 3) (by omega) (by omega)]
  refine ⟨_,rfl,_,rfl,_,rfl,?_⟩
  have j1:∀ (p:Int) (h':Heap) (v:Int),(a:Int)<=p->p < b->U64 B h' s d->Blk h' h.size [.int .i64 v] 3->Upd h.size h1 h'->bE ⟨h.size,0,none⟩ p k h':=fun p h' v p0 p1 R' T' U'=>by
    have O:Onl s h h':=⟨Nat.le_trans E1.size U'.size,fun g hg _=>(U'.block g (by have:=E1.size; omega) (by omega)).trans (E1.block g hg)⟩
    have ep:((p.toNat:Nat):Int)=p:=by omega
    unfold bE
    refine ⟨v,by rw [T'.cell]; rfl,?_⟩
    rw [← ep]
    by_cases h1:v=0
    · rw [if_pos (by simpa using h1)]; exact H p.toNat 1 h' (by omega) (by omega) R' O
    · rw [if_neg (by simpa using h1)]
      by_cases h2:v=12
      · rw [if_pos (by simpa using h2)]; exact H p.toNat 2 h' (by omega) (by omega) R' O
      · rw [if_neg (by simpa using h2)]; exact H p.toNat 0 h' (by omega) (by omega) R' O
  by_cases h8:(b:Int) - a>=8
  · rw [if_pos (decide_eq_true h8),if_neg (by rw [decide_eq_true_eq]; omega)]
    unfold cB
    refine KS R1 T0 ⟨by omega,by omega⟩ ⟨by omega,by omega⟩ ⟨by omega,by omega⟩ fun r h2 v e R2 T2 U2=>?_
    exact j1 r h2 v (by rcases e with e | e | e <;> omega) (by rcases e with e | e | e <;> omega) R2 T2 U2
  · rw [if_neg (by rw [decide_eq_true_eq]; exact h8)]
    exact j1 _ h1 0 (by omega) (by omega) R1 T0 (Upd.refl _ _)
/-! ### whether it is sorted -/
theorem Jj {k:KP Bool} (R:U64 B h s d) (ab:a < b) (hs:b<=d.size) (hz:d.size<=32) (H1:SortedIn ltInt a b d->k true h) (H2:k false h):bG s a b k h:=by
  unfold bG
  rw [az (by omega) (by omega)]
  refine ⟨_,rfl,?_⟩
  unfold fA
  refine ⟨fun st h'=>h'=h/\st=((a:Int) + 1,0),fun _ _=>0,⟨rfl,rfl⟩,?_⟩
  rintro i0 j0 h' ⟨e,e2⟩
  subst e
  cases e2
  unfold d9
  rw [if_pos (by decide)]
  unfold eY
  refine ⟨fun i h''=>h''=h'/\(a:Int) + 1<=i/\i<=b/\SortedIn ltInt a i.toNat d,fun i _=>(b - i).toNat,⟨rfl,by omega,by omega,fun i j h1 h2 h3=>by omega⟩,?_⟩
  rintro i h'' ⟨e,i0,iB,S⟩
  subst e
  have stop:∀ nx1 nx3,aO s a b i 0 false k nx1 nx3 h'':=fun nx1 nx3=>by
    unfold aO
    rw [if_neg (by simp)]
    by_cases hb:i=b
    · rw [if_pos (by simpa using hb)]
      exact H1 (by rw [hb,Int.toNat_natCast] at S; exact S)
    · rw [if_neg (by simpa using hb),az (x:=(b:Int) - a) (by omega) (by omega),if_pos (by rw [decide_eq_true_eq]; omega)]
      exact H2
  unfold eu
  by_cases hi:i < b
  · rw [if_pos (decide_eq_true hi),az (by omega) (by omega)]
    refine qE R (I:=i) (J:=i - 1) ⟨by omega,by omega⟩ ⟨by omega,by omega⟩ ?_
    cases hl:ltInt d[i.toNat]! d[(i - 1).toNat]! with
    | true=>exact stop _ _
    | false =>
      unfold aO
      rw [if_pos (by simp),az (by omega) (by omega)]
      refine ⟨_,rfl,⟨rfl,by omega,by omega,?_⟩,by dsimp only; omega⟩
      rw [show (i + 1).toNat=i.toNat + 1 from by omega]
      exact S.snoc swo_ltInt (by rw [show i.toNat - 1=(i - 1).toNat from by omega]; exact hl)
  · rw [if_neg (by rw [decide_eq_true_eq]; exact hi)]
    exact stop _ _
end
end Go.Q.Yi
end
section
namespace Go.Q.Yi
open Go.Sort
/-! ### the sort -/
def PC (s:Slc) (p1 p2 p3:Int) (k:KP Unit) (h:Heap):Prop :=
 ∃ (B:Nat) (d:Array Int) (a b:Nat),U64 B h s d/\p1=a/\p2=b/\a<=b/\b<=d.size/\d.size<=32/\Below ltInt a b d/\(0<=p3/\p3<=1000)/\∀ d' h',U64 B h' s d'->PermIn a b d d'->SortedIn ltInt a b d'->Onl s h h'->k () h'
theorem F9 (Q:Af) {N:Nat} (hQ:∀ s p1 p2 p3 k h,(p2 - p1).toNat < N->PC s p1 p2 p3 k h->Q.R s p1 p2 p3 k h) {s:Slc} {p1 p2 p3:Int} {k:KP Unit} {h:Heap} (hN:(p2 - p1).toNat<=N) (C:PC s p1 p2 p3 k h):di Q s p1 p2 p3 k h:=by
 obtain ⟨B,d,a,b,R,rfl,rfl,ab,bs,dz,Bl,hl,H⟩:=C
 unfold di kP
 refine ⟨fun st h'=>∃ (d':Array Int) (a' b':Nat),st.1=a'/\st.2.1=b'/\a<=a'/\a'<=b'/\b'<=b/\U64 B h' s d'/\d'.size=d.size/\Below ltInt a' b' d'/\(0<=st.2.2.1/\st.2.2.1<=1000)/\Onl s h h'/\∀ d2,PermIn a' b' d' d2->SortedIn ltInt a' b' d2->PermIn a b d d2/\SortedIn ltInt a b d2,fun st _=>(st.2.1 - st.1).toNat,
  ⟨d,a,b,rfl,rfl,Nat.le_refl _,ab,Nat.le_refl _,R,rfl,Bl,hl,Onl.refl _ _,fun d2 p q=>⟨p,q⟩⟩,?_⟩
 rintro t1 t2 lim wb wp h1 ⟨d1,a1,b1,e1,e2,aa,ab1,bb,R1,z1,Bl1,hl1,O1,Fi⟩
 dsimp only at e1 e2 hl1
 subst e1; subst e2
 unfold jW
 rw [az (x:=(b1:Int) - a1) (by omega) (by omega)]
 refine ⟨_,rfl,?_⟩
 have fin:∀ d' h',U64 B h' s d'->PermIn a1 b1 d1 d'->SortedIn ltInt a1 b1 d'->Onl s h1 h'->k () h':=fun d' h' R' P' S' O'=>by
  obtain ⟨q1,q2⟩:=Fi d' P' S'
  exact H d' h' R' q1 q2 (O1.trans O')
 by_cases h12:(b1:Int) - a1<=12
 ·rw [if_pos (decide_eq_true h12)]
  refine KL R1 ab1 (by omega) (by omega) fun h2 R2 O2=>?_
  obtain ⟨q1,q2⟩:=insertionSort_holds swo_ltInt d1 a1 b1 ab1 (by omega)
  exact fin _ h2 R2 q1 q2 O2
 rw [if_neg (by rw [decide_eq_true_eq]; exact h12)]
 by_cases hl0:lim=0
 ·rw [if_pos (by simpa using hl0)]
  refine II R1 (by omega) (by omega) (by omega) fun h2 R2 O2=>?_
  obtain ⟨q1,q2⟩:=heapSort_holds swo_ltInt d1 a1 b1 ab1 (by omega)
  exact fin _ h2 R2 q1 q2 O2
 rw [if_neg (by simpa using hl0)]
 -- the pivot, and on
 have j2:∀ (d2:Array Int) (h2:Heap) (lim':Int),(0<=lim'/\lim'<=1000)->U64 B h2 s d2->PermIn a1 b1 d1 d2->Onl s h1 h2->bS Q s a1 b1 wb wp ((b1:Int) - a1) lim' k (fun st h'=>(∃ (d':Array Int) (a' b':Nat),st.1=a'/\st.2.1=b'/\a<=a'/\a'<=b'/\b'<=b/\U64 B h' s d'/\d'.size=d.size/\Below ltInt a' b' d'/\(0<=st.2.2.1/\st.2.2.1<=1000)/\Onl s h h'/\∀ d2,PermIn a' b' d' d2->SortedIn ltInt a' b' d2->PermIn a b d d2/\SortedIn ltInt a b d2)/\(st.2.1 - st.1).toNat < ((b1:Int) - a1).toNat) h2:=fun d2 h2 lim' hl' R2 P2 O2=>by
  have z2:=P2.1
  have j4:∀ (d3:Array Int) (h3:Heap) (pv:Nat),a1<=pv->pv < b1->U64 B h3 s d3->PermIn a1 b1 d1 d3->Onl s h1 h3->bU Q s a1 b1 lim' wb wp ((b1:Int) - a1) pv k (fun st h'=>(∃ (d':Array Int) (a' b':Nat),st.1=a'/\st.2.1=b'/\a<=a'/\a'<=b'/\b'<=b/\U64 B h' s d'/\d'.size=d.size/\Below ltInt a' b' d'/\(0<=st.2.2.1/\st.2.2.1<=1000)/\Onl s h h'/\∀ d2,PermIn a' b' d' d2->SortedIn ltInt a' b' d2->PermIn a b d d2/\SortedIn ltInt a b d2)/\(st.2.1 - st.1).toNat < ((b1:Int) - a1).toNat) h3:=fun d3 h3 pv pv0 pv1 R3 P3 O3=>by
   have z3:=P3.1
   have Bl3:Below ltInt a1 b1 d3:=Bl1.perm (by omega) P3
   have O03:=O1.trans O3
   have part:aX Q s a1 b1 lim' wb wp ((b1:Int) - a1) pv false k (fun st h'=>(∃ (d':Array Int) (a' b':Nat),st.1=a'/\st.2.1=b'/\a<=a'/\a'<=b'/\b'<=b/\U64 B h' s d'/\d'.size=d.size/\Below ltInt a' b' d'/\(0<=st.2.2.1/\st.2.2.1<=1000)/\Onl s h h'/\∀ d2,PermIn a' b' d' d2->SortedIn ltInt a' b' d2->PermIn a b d d2/\SortedIn ltInt a b d2)/\(st.2.1 - st.1).toNat < ((b1:Int) - a1).toNat) h3:=by
    unfold aX
    rw [if_neg (by simp)]
    refine Jd R3 pv0 pv1 (by omega) (by omega) fun h4 R4 O4=>?_
    have O04:=O03.trans O4
    rcases hx:partition ltInt d3 a1 b1 pv with ⟨mid,ap,d4⟩
    rw [hx] at R4
    obtain ⟨g1,g2,z4,B1,B2,hle,hri⟩:=round_part swo_ltInt (partition_holds ltInt) pv0 pv1 (by omega) Bl3 hx
    dsimp only at R4 ⊢
    rw [az (x:=(mid:Int) - a1) (by omega) (by omega),az (x:=(b1:Int) - mid) (by omega) (by omega),az (x:=(mid:Int) + 1) (by omega) (by omega)]
    refine ⟨_,rfl,_,rfl,_,rfl,?_⟩
    by_cases hlt:(mid:Int) - a1 < (b1:Int) - mid
    ·rw [if_pos (decide_eq_true hlt)]
     refine hQ _ _ _ _ _ _ (by omega) ⟨B,d4,a1,mid,R4,rfl,rfl,g1,by omega,by omega,B1,hl',fun d5 h5 R5 P5 S5 O5=>?_⟩
     obtain ⟨B5,f5⟩:=hle d5 P5 S5
     have z5:=P5.1
     refine ⟨_,rfl,⟨d5,mid + 1,b1,by omega,rfl,by omega,by omega,bb,R5,by omega,B5,hl',O04.trans O5,fun d6 P6 S6=>?_⟩,by omega⟩
     obtain ⟨q1,q2⟩:=f5 d6 P6 S6
     exact Fi d6 (permIn_trans _ _ _ a1 b1 P3 q1) q2
    ·rw [if_neg (by rw [decide_eq_true_eq]; exact hlt)]
     refine hQ _ _ _ _ _ _ (by omega) ⟨B,d4,mid + 1,b1,R4,by omega,rfl,by omega,by omega,by omega,B2,hl',fun d5 h5 R5 P5 S5 O5=>?_⟩
     obtain ⟨B5,f5⟩:=hri d5 P5 S5
     have z5:=P5.1
     refine ⟨⟨d5,a1,mid,rfl,rfl,aa,g1,by omega,R5,by omega,B5,hl',O04.trans O5,fun d6 P6 S6=>?_⟩,by omega⟩
     obtain ⟨q1,q2⟩:=f5 d6 P6 S6
     exact Fi d6 (permIn_trans _ _ _ a1 b1 P3 q1) q2
   unfold bU
   by_cases ha0:(a1:Int) > 0
   ·rw [if_pos (decide_eq_true ha0),az (by omega) (by omega)]
    refine qE R3 ⟨by omega,by omega⟩ ⟨by omega,by omega⟩ ?_
    rw [show ((a1:Int) - 1).toNat=a1 - 1 from by omega,Int.toNat_natCast]
    cases hl2:ltInt d3[a1 - 1]! d3[pv]! with
    | true=>exact part
    | false =>
     show aX Q s a1 b1 lim' wb wp ((b1:Int) - a1) pv true k _ h3
     unfold aX
     rw [if_pos rfl]
     refine Fv R3 pv0 pv1 (by omega) (by omega) fun h4 R4 O4=>?_
     rcases hx:partitionEqual ltInt d3 a1 b1 pv with ⟨mid,d4⟩
     rw [hx] at R4
     obtain ⟨g1,g2,z4,B1,f4⟩:=round_eq swo_ltInt (partitionEqual_holds ltInt) (by omega) pv0 pv1 (by omega) Bl3 hl2 hx
     dsimp only at R4 ⊢
     refine ⟨⟨d4,mid,b1,rfl,rfl,by omega,g2,bb,R4,by omega,B1,hl',O03.trans O4,fun d6 P6 S6=>?_⟩,by omega⟩
     obtain ⟨q1,q2⟩:=f4 d6 P6 S6
     exact Fi d6 (permIn_trans _ _ _ a1 b1 P3 q1) q2
   ·rw [if_neg (by rw [decide_eq_true_eq]; exact ha0)]
    exact part
  have j3:∀ (d3:Array Int) (h3:Heap) (pv:Nat) (hint:Int),a1<=pv->pv < b1->U64 B h3 s d3->PermIn a1 b1 d1 d3->Onl s h1 h3->bT Q s a1 b1 lim' wb wp ((b1:Int) - a1) pv hint k (fun st h'=>(∃ (d':Array Int) (a' b':Nat),st.1=a'/\st.2.1=b'/\a<=a'/\a'<=b'/\b'<=b/\U64 B h' s d'/\d'.size=d.size/\Below ltInt a' b' d'/\(0<=st.2.2.1/\st.2.2.1<=1000)/\Onl s h h'/\∀ d2,PermIn a' b' d' d2->SortedIn ltInt a' b' d2->PermIn a b d d2/\SortedIn ltInt a b d2)/\(st.2.1 - st.1).toNat < ((b1:Int) - a1).toNat) h3:=fun d3 h3 pv hint pv0 pv1 R3 P3 O3=>by
   have z3:=P3.1
   unfold bT
   by_cases hc:((wb && wp) && (hint == 1))=true
   ·rw [if_pos hc]
    refine Jj R3 (by omega) (by omega) (by omega) (fun S=>?_) ?_
    ·rw [if_pos rfl]; exact fin d3 h3 R3 P3 S O3
    ·rw [if_neg (by simp)]; exact j4 d3 h3 pv pv0 pv1 R3 P3 O3
   ·rw [if_neg hc]; exact j4 d3 h3 pv pv0 pv1 R3 P3 O3
  unfold bS
  refine G9 R2 (by omega) (by omega) (by omega) fun p hint h3 p0 p1 R3 O3=>?_
  dsimp only
  by_cases h2':hint=2
  ·rw [if_pos (by simpa using h2')]
   refine Lr R3 (by omega) (by omega) (by omega) fun d4 h4 R4 P4 O4=>?_
   rw [az (x:=(b1:Int) - 1) (by omega) (by omega),az (x:=(p:Int) - a1) (by omega) (by omega),az (by omega) (by omega)]
   refine ⟨_,rfl,?_⟩
   have:=j3 d4 h4 (b1 - 1 - (p - a1)) 1 (by omega) (by omega) R4 (permIn_trans _ _ _ a1 b1 P2 P4) (O2.trans (O3.trans O4))
   rw [show ((b1 - 1 - (p - a1):Nat):Int)=(b1:Int) - 1 - ((p:Int) - a1) from by omega] at this
   exact this
  ·rw [if_neg (by simpa using h2')]
   exact j3 d2 h3 p hint p0 p1 R3 P2 (O2.trans O3)
 cases wb with
 | false =>
  rw [if_pos (by simp)]
  refine Gw R1 (by omega) (by omega) (by omega) fun d2 h2 R2 P2 O2=>?_
  rw [az (by omega) (by omega)]
  exact ⟨_,rfl,j2 d2 h2 (lim - 1) ⟨by omega,by omega⟩ R2 P2 O2⟩
 | true =>
  rw [if_neg (by simp)]
  exact j2 d1 h1 lim hl1 R1 (permIn_refl d1 a1 b1) (Onl.refl _ _)
def Ea:Nat->Af
 | 0=>⟨fun _ _ _ _ _ _=>False,fun _ _ _ _ _ _ h=>h.elim⟩
 | n + 1=>⟨fun s p1 p2 p3 k h=>di (Ea n) s p1 p2 p3 k h,fun p0 p1 p2 p3 k h H=>R95 (Ea n) p0 p1 p2 p3 k h H⟩
theorem Ex:∀ (n:Nat) (s:Slc) (p1 p2 p3:Int) (k:KP Unit) (h:Heap),(p2 - p1).toNat < n->PC s p1 p2 p3 k h->(Ea n).R s p1 p2 p3 k h
 | 0,_,_,_,_,_,_,hn,_=>by omega
 | n + 1,s,p1,p2,p3,k,h,hn,C=>F9 (Ea n) (N:=n) (fun s p1 p2 p3 k h hn' C'=>Ex n s p1 p2 p3 k h hn' C') (by omega) C
end Go.Q.Yi
end
section
namespace Go.Q.Yi
open Go.Proofs.Try
/-- slices.Sort   uint64 uint64  -/
def gz (p0:Slc) (k:KP Unit) (h:Heap):Prop :=
  ∃ x1,x1=(p0.len:Int)/\(nN (IntKind.u64.wrap x1) (fun r2 h3=>di (Ea 40) p0 0 x1 r2 (fun r4 h5=>k () h5) h3) h)
/-- slices.Sorted uint64  -/
def mR (p0:Value) (k:KP Slc) (h:Heap):Prop :=
  pO p0 (fun r1 h2=>gz r1 (fun r3 h4=>k r1 h4) h2) h
/-- quaestor vote.Commit -/
def rM (p0:Slc) (k:KP Int) (h:Heap):Prop :=
  if ((p0.len:Int) == 0) then (k 0 h) else (iY p0 (fun r1 h2=>mR r1 (fun r3 h4=>qY (r3.len:Int) (fun r5 h6=>∃ a7,r3.a=some a7/\(0:Int)<=(IntKind.i64.wrap ((r3.len:Int) - r5))/\(IntKind.i64.wrap ((r3.len:Int) - r5)) < (r3.len:Int)/\(∃ v8,af h6 (a7.add ((IntKind.i64.wrap ((r3.len:Int) - r5)).toNat * 1))=some (.int .u64 v8)/\(k v8 h6))) h4) h2) h)
theorem O92:aB prog 92:=ck func92
theorem R92 (p0 k h) (H:gz p0 k h):CallsH prog 92 #[Slc.v p0] h (rU k):=by
 refine fE func92 fun w0=>?_
 refine zF [0] (zQ ?_)
 refine w2 Z ?_
 refine wQ Z H fun x1 H=>?_
 refine zE (zR (w4 Z ?_))
 refine wC O96 (R96 _ _ _ H) fun r2 h3 H=>?_
 refine wC O95 (R95 (Ea 40) _ _ _ _ _ _ H) fun r4 h5 H=>?_
 refine zW ?_
 exact kW _ rfl _ rfl ⟨(),rfl,H⟩
theorem O88:aB prog 88:=ck func88
theorem R88 (p0 k h) (H:mR p0 k h):CallsH prog 88 #[p0] h (rS k):=by
 refine fE func88 fun w0=>?_
 refine zF [0] (zQ ?_)
 refine w1 Z (zE (zQ ?_))
 refine w1 Z ?_
 refine wC O91 (R91 _ _ _ H) fun r1 h2 H=>?_
 refine w1 Z (zE (zQ ?_))
 refine w1 Z ?_
 refine wC O92 (R92 _ _ _ H) fun r3 h4 H=>?_
 refine zE (zQ (w2 Z (zE (zF [2] (zT ?_)))))
 exact aA _ rfl _ rfl ⟨r1,rfl,H⟩
theorem O83:aB prog 83:=ck func83
theorem R83 (p0 k h) (H:rM p0 k h):CallsH prog 83 #[Slc.v p0] h (rI .u64 k):=by
 refine fE func83 fun w0=>?_
 refine zF [0] (zQ ?_)
 refine w1 Z (zE (zS (zQ ?_)))
 refine w3 Z (zE ?_)
 refine zI H ?_ ?_ <;> intro H
 refine zQ (w1 Z (zE (zT (yT ?_))))
 exact aA _ rfl _ rfl ⟨0,rfl,H⟩
 refine zK (zX (zQ (w1 Z ?_)))
 refine wC O89 (R89 _ _ _ H) fun r1 h2 H=>?_
 refine wC O88 (R88 _ _ _ H) fun r3 h4 H=>?_
 refine w1 Z (zE (zF [3] (zQ ?_)))
 refine w5 Z ?_
 refine wC O80 (R80 _ _ _ H) fun r5 h6 H=>?_
 refine w1 Z ?_
 refine wD Z H fun a7 _ H=>?_
 refine wL Z H fun v8 H=>?_
 refine w1 Z (zE (zF [2] (zT ?_)))
 exact aA _ rfl _ rfl ⟨v8,rfl,H⟩
end Go.Q.Yi
end
section
/- All bits turned round; how much room a slice has. -/
namespace Go.Q
section
variable {P:Program} {T:Tab} {e:Env} {h:Heap} {o:Oper}
end
end Go.Q
end
section
/- Methods as values: what is bound stands first. -/
namespace Go.Q
theorem IC (a b c:List Value):a.toArray ++ b.toArray ++ c.toArray=(a ++ b ++ c).toArray:=by simp
theorem Jm {c:Cx} {lops:List Oper} {Q:Exit->Act->World->Prop} {K:Act->World->Prop} {l:List Oper} {e:Env} {h:Heap} {o:Oper} {f:FuncId} {x:Operand} {as':List Operand} {ts:Array TypeId} {vs cap fs:List Value} {Φ:Value->Heap->Prop}
  (hf:aB c.P f) (hc:CallsHD c.D c.P f (fs ++ vs ++ cap).toArray h Φ) (ho:o.op = .call { callee:=.value x,args:=as'.toArray,argTypes:=ts }) (hx:evO e x=some (.func (.func f) fs.toArray cap.toArray)) (hv:evs e as'=some vs) (hw:wnt lops e o=some true) (hd:dOk c.N o.dst=true)
  (H:∀ v h',Φ v h'->gop c lops Q K l (pu e o.dst v) h'):gop c lops Q K (o :: l) e h:=by
 have:=zz (P:=c.P) (e:=e) (o:=o) hf ho hx hv
 rw [IC] at this
 exact w_c hc this hw hd H
theorem Gq {P:Program} {e:Env} {h:Heap} {o:Oper} {fn:Fn} {fs as':List Operand} {us vs:List Value} (ho:o.op = .makeFunc fn fs.toArray as'.toArray) (hu:evs e fs=some us) (hv:evs e as'=some vs):Yl P e h o (.func fn us.toArray vs.toArray):=by
 intro ρ w hA hw
 have hm:=wz hA _ _ hv
 have hn:=wz hA _ _ hu
 simp [execOp,ho,Instr.makeFunc,hm,hn]
end Go.Q
end

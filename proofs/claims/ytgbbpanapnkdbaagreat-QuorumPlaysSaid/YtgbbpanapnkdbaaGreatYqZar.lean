/- A part of the proof of statements of this seat: lemmas, no statement of their own. -/
import Derived.Test.YtgbbpanapnkdbaaGreatYqZaq
import Derived.Test.YtgbbpanapnkdbaaGreatYqZao
import Derived.Test.YtgbbpanapnkdbaaGreatYqZaf
import Derived.Test.YtgbbpanapnkdbaaGreatYqZad
import Derived.Test.YtgbbpanapnkdbaaGreatYqZae
import Derived.Test.YtgbbpanapnkdbaaGreatYqZal
set_option linter.unusedVariables false
set_option linter.unusedSimpArgs false
set_option maxRecDepth 100000
set_option maxHeartbeats 1000000
section
namespace Go.Q.Yq
open Go.Sort
/-! ### the heap -/
theorem Gp (hi first root:Nat) (d:Array Int):siftDown ltInt hi first root d=if hi<=2 * root + 1 then d else
    if ltInt d[first + root]! d[first + (if 2 * root + 2 < hi/\ltInt d[first + (2 * root + 1)]! d[first + (2 * root + 1) + 1]! = true then 2 * root + 2 else 2 * root + 1)]! = true then
      siftDown ltInt hi first (if 2 * root + 2 < hi/\ltInt d[first + (2 * root + 1)]! d[first + (2 * root + 1) + 1]! = true then 2 * root + 2 else 2 * root + 1) (swp d (first + root) (first + (if 2 * root + 2 < hi/\ltInt d[first + (2 * root + 1)]! d[first + (2 * root + 1) + 1]! = true then 2 * root + 2 else 2 * root + 1))) else d:=by
  rw [siftDown]
  by_cases h1:hi<=2 * root + 1
  · rw [dif_pos h1,if_pos h1]
  rw [dif_neg h1,if_neg h1]
  by_cases h2:2 * root + 2 < hi/\ltInt d[first + (2 * root + 1)]! d[first + (2 * root + 1) + 1]! = true
  · rw [if_pos (by simp; exact ⟨by omega,h2.2⟩),if_pos h2]
    cases h3:ltInt d[first + root]! d[first + (2 * root + 2)]! with
    | true=>rw [if_neg (by simp),dif_pos h2.1,if_pos rfl]
    | false=>rw [if_pos (by simp),if_neg (by simp)]
  · rw [if_neg (by simp; intro h; cases h4:ltInt d[first + (2 * root + 1)]! d[first + (2 * root + 1) + 1]! with
                   | true=>exact absurd ⟨by omega,h4⟩ h2
                   | false=>rfl),if_neg h2]
    cases h3:ltInt d[first + root]! d[first + (2 * root + 1)]! with
    | true=>rw [if_neg (by simp),if_pos rfl]
    | false=>rw [if_pos (by simp),if_neg (by simp)]
section
variable {B:Nat} {h:Heap} {s:Slc} {d:Array Int} {a b:Nat}
theorem JC {lo hi first:Nat} {k:KP Unit} (R:U64 B h s d) (hs:first + hi<=d.size) (hl:lo<=1000) (hz:d.size<=1000) (H:∀ h',U64 B h' s (siftDown ltInt hi first lo d)->Onl s h h'->k () h'):dO s lo hi first k h:=by
  unfold dO mg
  refine ⟨fun r h'=>∃ d',U64 B h' s d'/\d'.size=d.size/\Onl s h h'/\0<=r/\r<=1000/\siftDown ltInt hi first r.toNat d'=siftDown ltInt hi first lo d,fun r _=>(hi - r).toNat,⟨d,R,rfl,Onl.refl _ _,by omega,by omega,by rw [Int.toNat_natCast]⟩,?_⟩
  rintro r h1 ⟨d1,R1,z1,O1,r0,r1,e1⟩
  rw [Gp] at e1
  unfold kW
  rw [aA (x:=2 * r) (by omega) (by omega),aA (by omega) (by omega)]
  refine ⟨_,rfl,?_⟩
  by_cases hd:2 * r + 1>=(hi:Int)
  · rw [if_pos (decide_eq_true hd)]
    rw [if_pos (by omega)] at e1
    rw [e1] at R1
    exact H h1 R1 O1
  rw [if_neg (by rw [decide_eq_true_eq]; exact hd)]
  rw [if_neg (by omega)] at e1
  have j2:∀ c:Nat,(c=if 2 * r.toNat + 2 < hi/\ltInt d1[first + (2 * r.toNat + 1)]! d1[first + (2 * r.toNat + 1) + 1]! = true then 2 * r.toNat + 2 else 2 * r.toNat + 1)->c < hi->di s hi first r c k (fun r' h'=>(∃ d',U64 B h' s d'/\d'.size=d.size/\Onl s h h'/\0<=r'/\r'<=1000/\siftDown ltInt hi first r'.toNat d'=siftDown ltInt hi first lo d)/\((hi:Int) - r').toNat < ((hi:Int) - r).toNat) h1:=fun c hc ch=>by
    rw [← hc] at e1
    have cr:r < c:=by rw [hc]; split <;> omega
    unfold di
    rw [aA (by omega) (by omega),aA (by omega) (by omega)]
    refine uJ R1 ⟨by omega,by omega⟩ ⟨by omega,by omega⟩ ?_
    have ei:((first:Int) + r).toNat=first + r.toNat:=by omega
    have ej:((first:Int) + c).toNat=first + c:=by omega
    cases hl:ltInt d1[((first:Int) + r).toNat]! d1[((first:Int) + c).toNat]! with
    | false =>
      rw [ei,ej] at hl
      rw [if_neg (by rw [hl]; simp)] at e1
      rw [if_pos (by simp)]
      rw [e1] at R1
      exact H h1 R1 O1
    | true =>
      rw [ei,ej] at hl
      rw [if_pos hl] at e1
      rw [if_neg (by simp)]
      refine uH R1 (I:=(first:Int) + c) (J:=(first:Int) + r) ⟨by omega,by omega⟩ ⟨by omega,by omega⟩ fun h2 R2 O2=>?_
      rw [ei,ej] at R2
      exact ⟨⟨_,R2,by rw [pX,z1],O1.trans O2,by omega,by omega,by rw [Int.toNat_natCast]; exact e1⟩,by omega⟩
  have j3:∀ f:Bool,(f=true ↔ 2 * r.toNat + 2 < hi/\ltInt d1[first + (2 * r.toNat + 1)]! d1[first + (2 * r.toNat + 1) + 1]! = true)->dh s hi first r (2 * r + 1) f k (fun r' h'=>(∃ d',U64 B h' s d'/\d'.size=d.size/\Onl s h h'/\0<=r'/\r'<=1000/\siftDown ltInt hi first r'.toNat d'=siftDown ltInt hi first lo d)/\((hi:Int) - r').toNat < ((hi:Int) - r).toNat) h1:=fun f hf=>by
    unfold dh
    cases f with
    | true =>
      rw [if_pos rfl,aA (by omega) (by omega)]
      refine ⟨_,rfl,?_⟩
      have:=hf.1 rfl
      have:=j2 (2 * r.toNat + 2) (by rw [if_pos this]) this.1
      rw [show ((2 * r.toNat + 2:Nat):Int)=2 * r + 1 + 1 from by omega] at this
      exact this
    | false =>
      rw [if_neg (by simp)]
      have hn:¬ (2 * r.toNat + 2 < hi/\ltInt d1[first + (2 * r.toNat + 1)]! d1[first + (2 * r.toNat + 1) + 1]! = true):=fun e=>by have:=hf.2 e; cases this
      have:=j2 (2 * r.toNat + 1) (by rw [if_neg hn]) (by omega)
      rw [show ((2 * r.toNat + 1:Nat):Int)=2 * r + 1 from by omega] at this
      exact this
  rw [aA (by omega) (by omega)]
  by_cases h2:2 * r + 1 + 1 < (hi:Int)
  · rw [if_pos (decide_eq_true h2),aA (x:=(first:Int) + (2 * r + 1)) (by omega) (by omega),aA (by omega) (by omega)]
    refine uJ R1 ⟨by omega,by omega⟩ ⟨by omega,by omega⟩ ?_
    rw [show ((first:Int) + (2 * r + 1)).toNat=first + (2 * r.toNat + 1) from by omega,show ((first:Int) + (2 * r + 1) + 1).toNat=first + (2 * r.toNat + 1) + 1 from by omega]
    exact j3 _ ⟨fun e=>⟨by omega,e⟩,fun e=>e.2⟩
  · rw [if_neg (by rw [decide_eq_true_eq]; exact h2)]
    exact j3 false ⟨fun e=>Bool.noConfusion e,fun e=>absurd e.1 (by omega)⟩
theorem DX:∀ (n hi first root:Nat) (d:Array Int),hi - root<=n->(siftDown ltInt hi first root d).size=d.size
  | 0,hi,first,root,d,hn=>by rw [Gp,if_pos (by omega)]
  | n + 1,hi,first,root,d,hn=>by
    rw [Gp]
    by_cases h1:hi<=2 * root + 1
    · rw [if_pos h1]
    rw [if_neg h1]
    obtain ⟨c,hc⟩:∃ c,c=if 2 * root + 2 < hi/\ltInt d[first + (2 * root + 1)]! d[first + (2 * root + 1) + 1]! = true then 2 * root + 2 else 2 * root + 1:=⟨_,rfl⟩
    rw [← hc]
    have cr:root < c:=by rw [hc]; split <;> omega
    by_cases h2:ltInt d[first + root]! d[first + c]! = true
    · rw [if_pos h2,DX n _ _ _ _ (by omega),pX]
    · rw [if_neg h2]
theorem Nt {k:KP Unit} (R:U64 B h s d) (ab:a < b) (hs:b<=d.size) (hz:d.size<=1000) (H:∀ h',U64 B h' s (heapSort ltInt d a b)->Onl s h h'->k () h'):fA s a b k h:=by
  unfold fA
  rw [aA (x:=(b:Int) - a) (by omega) (by omega)]
  refine ⟨_,rfl,?_⟩
  rw [aA (x:=(b:Int) - a - 1) (by omega) (by omega),Int.tdiv_eq_ediv_of_nonneg (by omega),aA (by omega) (by omega)]
  refine ⟨_,rfl,?_⟩
  have en:(b:Int) - a=((b - a:Nat):Int):=by omega
  rw [en]
  unfold heapSort at H
  generalize hF:heapBuild ltInt (b - a) a ((b - a - 1) / 2 + 1) d=F at *
  unfold lI
  refine ⟨fun i h'=>∃ d',U64 B h' s d'/\d'.size=d.size/\Onl s h h'/\-1<=i/\i<=b/\heapBuild ltInt (b - a) a (i + 1).toNat d'=F,fun i _=>(i + 1).toNat,
    ⟨d,R,rfl,Onl.refl _ _,by omega,by omega,by rw [show ((((b - a:Nat):Int) - 1) / 2 + 1).toNat=(b - a - 1) / 2 + 1 from by omega]; exact hF⟩,?_⟩
  rintro i h1 ⟨d1,R1,z1,O1,i0,iB,e1⟩
  unfold lg
  by_cases hi:i>=0
  · rw [if_pos (decide_eq_true hi)]
    rw [show (i + 1).toNat=i.toNat + 1 from by omega] at e1
    have ei:((i.toNat:Nat):Int)=i:=by omega
    rw [← ei]
    refine JC R1 (by omega) (by omega) (by omega) fun h2 R2 O2=>?_
    rw [ei,aA (by omega) (by omega)]
    refine ⟨_,rfl,⟨_,R2,by rw [DX _ _ _ _ _ (Nat.le_refl _),z1],O1.trans O2,by omega,by omega,?_⟩,by dsimp only; omega⟩
    rw [show (i - 1 + 1).toNat=i.toNat from by omega]
    exact e1
  rw [if_neg (by rw [decide_eq_true_eq]; exact hi)]
  rw [show (i + 1).toNat=0 from by omega] at e1
  change d1=F at e1
  subst e1
  rw [aA (by omega) (by omega)]
  refine ⟨_,rfl,?_⟩
  generalize hG:heapPop ltInt a (b - a) d1=G at *
  unfold lM
  refine ⟨fun i h'=>∃ d',U64 B h' s d'/\d'.size=d.size/\Onl s h h'/\-1<=i/\i < (b - a:Nat)/\heapPop ltInt a (i + 1).toNat d'=G,fun i _=>(i + 1).toNat,
    ⟨d1,R1,z1,O1,by omega,by omega,by rw [show (((b - a:Nat):Int) - 1 + 1).toNat=b - a from by omega]; exact hG⟩,?_⟩
  rintro i h2 ⟨d2,R2,z2,O2,i0,iB,e2⟩
  unfold kZ
  by_cases hi:i>=0
  · rw [if_pos (decide_eq_true hi)]
    rw [show (i + 1).toNat=i.toNat + 1 from by omega] at e2
    rw [aA (by omega) (by omega)]
    refine uH R2 (I:=(a:Int) + i) (J:=a) ⟨by omega,by omega⟩ ⟨by omega,by omega⟩ fun h3 R3 O3=>?_
    rw [Int.toNat_natCast,show ((a:Int) + i).toNat=a + i.toNat from by omega] at R3
    have ei:((i.toNat:Nat):Int)=i:=by omega
    have z3:(swp d2 a (a + i.toNat)).size=d.size:=by rw [pX,z2]
    rw [← ei]
    refine JC (lo:=0) R3 (by omega) (by omega) (by omega) fun h4 R4 O4=>?_
    rw [ei,aA (by omega) (by omega)]
    refine ⟨_,rfl,⟨_,R4,by rw [DX _ _ _ _ _ (Nat.le_refl _),z3],O2.trans (O3.trans O4),by omega,by omega,?_⟩,by dsimp only; omega⟩
    rw [show (i - 1 + 1).toNat=i.toNat from by omega]
    exact e2
  · rw [if_neg (by rw [decide_eq_true_eq]; exact hi)]
    rw [show (i + 1).toNat=0 from by omega] at e2
    change d2=G at e2
    subst e2
    exact H h2 R2 O2
/-! ### turned about, stirred, and where the pivot is -/
theorem Ol {k:KP Unit} (R:U64 B h s d) (ab:a<=b) (hs:b<=d.size) (hz:d.size<=1000) (H:∀ d' h',U64 B h' s d'->PermIn a b d d'->Onl s h h'->k () h'):dX s a b k h:=by
  unfold dX
  rw [aA (by omega) (by omega)]
  refine ⟨_,rfl,?_⟩
  unfold jY
  refine ⟨fun st h'=>∃ d',U64 B h' s d'/\PermIn a b d d'/\Onl s h h'/\(a:Int)<=st.1/\st.2<=(b:Int) - 1/\st.1<=1000/\-1<=st.2,fun st _=>(st.2 - st.1).toNat,⟨d,R,permIn_refl d a b,Onl.refl _ _,by dsimp only; omega,by dsimp only; omega,by dsimp only; omega,by dsimp only; omega⟩,?_⟩
  rintro i j h1 ⟨d1,R1,P1,O1,i0,jB,iB,j0⟩
  dsimp only at i0 jB iB j0
  have z1:=P1.1
  unfold jK
  by_cases hij:i < j
  · rw [if_pos (decide_eq_true hij)]
    refine uH R1 (I:=j) (J:=i) ⟨by omega,by omega⟩ ⟨by omega,by omega⟩ fun h2 R2 O2=>?_
    rw [aA (by omega) (by omega),aA (by omega) (by omega)]
    exact ⟨_,rfl,_,rfl,⟨_,R2,permIn_trans _ _ _ a b P1 (swp_permIn d1 a b i.toNat j.toNat (by omega) (by omega) (by omega) (by omega) (by omega)),O1.trans O2,by dsimp only; omega,by dsimp only; omega,by dsimp only; omega,by dsimp only; omega⟩,by dsimp only; omega⟩
  · rw [if_neg (by rw [decide_eq_true_eq]; exact hij)]
    exact H d1 h1 R1 P1 O1
theorem U64.other {h':Heap} {c E:Nat} {cs:List Value} (R:U64 B h s d) (T:Blk h c cs E) (hE:25≠E) (U:Upd c h h'):U64 B h' s d :=
  Row.keep R fun g hg=>U.block g (R.bd hg).2 fun e=>R.Jc T hE (e ▸ hg)
theorem MV {c:Nat} {v:Int} {k:KP Int} (T:Blk h c [.int .u64 v] 218) (H:∀ r h',(0<=r/\r < 18446744073709551616)->Blk h' c [.int .u64 r] 218->Upd c h h'->k r h'):mq (some ⟨c,0,none⟩) k h:=by
  unfold mq
  have up:∀ (h1:Heap) w,Upd c h1 (setH h1 ⟨c,0,none⟩ w):=fun h1 w=>⟨by rw [lv]; exact Nat.le_refl _,fun i _ hi=>jL hi⟩
  have c0:∀ {h1:Heap} {w:Int},Blk h1 c [.int .u64 w] 218->ah h1 ⟨c,0,none⟩=some (.int .u64 w):=fun K=>by rw [K.cell]; rfl
  have st:∀ {h1:Heap} {w x:Int},Blk h1 c [.int .u64 w] 218->Blk (setH h1 ⟨c,0,none⟩ (.int .u64 x)) c [.int .u64 x] 218:=fun K=>K.set
  have T1:=st (x:=CK .u64 v (shl .u64 v (13:Int).toNat)) T
  refine ⟨_,rfl,v,c0 T,v,c0 T,_,T.wr (by simp),rfl,?_⟩
  generalize CK .u64 v (shl .u64 v (13:Int).toNat)=v1 at *
  have T2:=st (x:=CK .u64 v1 (shr .u64 v1 (7:Int).toNat)) T1
  refine ⟨v1,c0 T1,v1,c0 T1,_,T1.wr (by simp),rfl,?_⟩
  generalize CK .u64 v1 (shr .u64 v1 (7:Int).toNat)=v2 at *
  have T3:=st (x:=CK .u64 v2 (shl .u64 v2 (17:Int).toNat)) T2
  refine ⟨v2,c0 T2,v2,c0 T2,_,T2.wr (by simp),rfl,_,c0 T3,?_⟩
  refine H _ _ ?_ T3 ((up _ _).trans ((up _ _).trans (up _ _)))
  unfold CK
  rw [QP]
  omega
theorem KT {k:KP Unit} (R:U64 B h s d) (ab:a<=b) (hs:b<=d.size) (hz:d.size<=32) (H:∀ d' h',U64 B h' s d'->PermIn a b d d'->Onl s h h'->k () h'):dP s a b k h:=by
  unfold dP
  rw [aA (x:=(b:Int) - a) (by omega) (by omega)]
  refine ⟨_,rfl,?_⟩
  by_cases h8:(b:Int) - a>=8
  · rw [if_pos (decide_eq_true h8)]
    refine ⟨_,_,rfl,rfl,?_⟩
    have T0:=Blk.push h ([.int .u64 0]:List Value) 218
    have E1:=Ext.push h (.cells ([.int .u64 0]:List Value).toArray 218) (Nat.le_refl h.size)
    have R1:=R.pushed (.cells ([.int .u64 0]:List Value).toArray 218)
    generalize h.push (.cells ([.int .u64 0]:List Value).toArray 218)=h1 at *
    refine ⟨_,T0.wr (by simp),rfl,?_⟩
    rw [oF (by omega) (by omega)]
    have T1:Blk (setH h1 ⟨h.size,0,none⟩ (.int .u64 ((b:Int) - a))) h.size [.int .u64 ((b:Int) - a)] 218:=T0.set
    have U1:Upd h.size h1 (setH h1 ⟨h.size,0,none⟩ (.int .u64 ((b:Int) - a))):=⟨by rw [lv]; exact Nat.le_refl _,fun i _ hi=>jL hi⟩
    have R2:U64 B (setH h1 ⟨h.size,0,none⟩ (.int .u64 ((b:Int) - a))) s d:=U64.other R1 T0 (by decide) U1
    have O2:Onl s h (setH h1 ⟨h.size,0,none⟩ (.int .u64 ((b:Int) - a))):=⟨by rw [lv]; exact E1.size,fun g hg _=>(U1.block g (by have:=E1.size; omega) (by omega)).trans (E1.block g hg)⟩
    generalize setH h1 ⟨h.size,0,none⟩ (.int .u64 ((b:Int) - a))=h2 at *
    unfold oz
    have en:(b:Int) - a=((b - a:Nat):Int):=by omega
    rw [en,oF (by omega) (by omega)]
    refine MB (by omega) ?_
    have hm:2 ^ bitsLen (b - a)<=2 * (b - a)/\0 < 2 ^ bitsLen (b - a):=by
      have key:(List.range 33).all (fun n=>decide (n < 8∨(2 ^ bitsLen n<=2 * n/\0 < 2 ^ bitsLen n)))=true:=by decide +kernel
      have:=List.all_eq_true.1 key (b - a) (by simp; omega)
      rw [decide_eq_true_eq] at this
      omega
    have hb6:bitsLen (b - a)<=8:=by
      have key:(List.range 33).all (fun n=>decide (bitsLen n<=8))=true:=by decide +kernel
      have:=List.all_eq_true.1 key (b - a) (by simp; omega)
      simpa using this
    have es:shl .u64 1 ((bitsLen (b - a):Nat):Int).toNat=((2 ^ bitsLen (b - a):Nat):Int):=by
      unfold shl
      rw [Int.toNat_natCast,show min (bitsLen (b - a)) IntKind.u64.bits=bitsLen (b - a) from Nat.min_eq_left (by show _<=64; omega),Int.one_mul]
      have:((2:Int) ^ bitsLen (b - a))=((2 ^ bitsLen (b - a):Nat):Int):=by simp
      rw [this]
      generalize 2 ^ bitsLen (b - a)=P at *
      rw [oF (by omega) (by omega)]
    refine ⟨by omega,_,rfl,?_⟩
    rw [es]
    generalize 2 ^ bitsLen (b - a)=P at *
    have et:Int.tdiv ((b - a:Nat):Int) 4=((b - a:Nat):Int) / 4:=Int.tdiv_eq_ediv_of_nonneg (by omega)
    rw [et,aA (x:=((b - a:Nat):Int) / 4) (by omega) (by omega),aA (x:=((b - a:Nat):Int) / 4 * 2) (by omega) (by omega),aA (x:=(a:Int) + ((b - a:Nat):Int) / 4 * 2) (by omega) (by omega),aA (by omega) (by omega)]
    refine ⟨_,rfl,?_⟩
    unfold jJ
    refine ⟨fun i h'=>∃ d' v,U64 B h' s d'/\PermIn a b d d'/\Onl s h h'/\Blk h' h.size [.int .u64 v] 218/\(a:Int) + ((b - a:Nat):Int) / 4 * 2 - 1<=i/\i<=(a:Int) + ((b - a:Nat):Int) / 4 * 2 + 2,fun i _=>((a:Int) + ((b - a:Nat):Int) / 4 * 2 + 2 - i).toNat,
      ⟨d,_,R2,permIn_refl d a b,O2,T1,by omega,by omega⟩,?_⟩
    rintro i h3 ⟨d3,v,R3,P3,O3,T3,i0,iB⟩
    have z3:=P3.1
    unfold iW
    rw [et,aA (x:=((b - a:Nat):Int) / 4) (by omega) (by omega),aA (x:=((b - a:Nat):Int) / 4 * 2) (by omega) (by omega),aA (x:=(a:Int) + ((b - a:Nat):Int) / 4 * 2) (by omega) (by omega),aA (x:=(a:Int) + ((b - a:Nat):Int) / 4 * 2 + 1) (by omega) (by omega)]
    by_cases hi:i<=(a:Int) + ((b - a:Nat):Int) / 4 * 2 + 1
    · rw [if_pos (decide_eq_true hi)]
      refine MV T3 fun r h4 hr T4 U4=>?_
      have R4:=U64.other R3 T3 (by decide) U4
      have O4:Onl s h h4:=⟨Nat.le_trans O3.size U4.size,fun g hg hne=>(U4.block g (by have:=O3.size; omega) (by omega)).trans (O3.block g hg hne)⟩
      have j2:∀ o:Nat,o < b - a->bN s a ((b - a:Nat):Int) ⟨h.size,0,none⟩ (P:Int) i o k (fun i' h'=>(∃ d' v,U64 B h' s d'/\PermIn a b d d'/\Onl s h h'/\Blk h' h.size [.int .u64 v] 218/\(a:Int) + ((b - a:Nat):Int) / 4 * 2 - 1<=i'/\i'<=(a:Int) + ((b - a:Nat):Int) / 4 * 2 + 2)/\((a:Int) + ((b - a:Nat):Int) / 4 * 2 + 2 - i').toNat < ((a:Int) + ((b - a:Nat):Int) / 4 * 2 + 2 - i).toNat) h4:=fun o ho=>by
        unfold bN
        rw [aA (by omega) (by omega)]
        refine uH R4 (I:=(a:Int) + o) (J:=i) ⟨by omega,by omega⟩ ⟨by omega,by omega⟩ fun h5 R5 O5=>?_
        rw [aA (by omega) (by omega)]
        exact ⟨_,rfl,⟨_,_,R5,permIn_trans _ _ _ a b P3 (swp_permIn d3 a b i.toNat ((a:Int) + o).toNat (by omega) (by omega) (by omega) (by omega) (by omega)),O4.trans O5,T4.old (O5.block _ T4.lt (R4.Jc T4 (by decide))),by omega,by omega⟩,by omega⟩
      have ew:IntKind.i64.wrap (MF .u64 r (IntKind.u64.wrap ((P:Int) - 1)))=((r.toNat &&& (P - 1):Nat):Int):=by
        have h1:=NN (a:=r.toNat) (b:=P - 1) (by omega) (by omega)
        rw [show ((r.toNat:Nat):Int)=r from by omega,show ((P - 1:Nat):Int)=(P:Int) - 1 from by omega] at h1
        have h2:r.toNat &&& (P - 1)<=P - 1:=Nat.and_le_right
        rw [oF (by omega) (by omega),h1,aA (by omega) (by omega)]
      rw [ew]
      have h2:r.toNat &&& (P - 1)<=P - 1:=Nat.and_le_right
      generalize r.toNat &&& (P - 1)=o at *
      refine ⟨_,rfl,?_⟩
      by_cases ho:(o:Int)>=((b - a:Nat):Int)
      · rw [if_pos (decide_eq_true ho),aA (by omega) (by omega)]
        refine ⟨_,rfl,?_⟩
        have:=j2 (o - (b - a)) (by omega)
        rw [show ((o - (b - a):Nat):Int)=(o:Int) - ((b - a:Nat):Int) from by omega] at this
        exact this
      · rw [if_neg (by rw [decide_eq_true_eq]; exact ho)]
        exact j2 o (by omega)
    · rw [if_neg (by rw [decide_eq_true_eq]; exact hi)]
      exact H d3 h3 R3 P3 O3
  · rw [if_neg (by rw [decide_eq_true_eq]; exact h8)]
    exact H d h R (permIn_refl d a b) (Onl.refl _ _)
theorem Gy {c:Nat} {v:Int} {x y:Int} {k:KP (Int × Int)} (R:U64 B h s d) (T:Blk h c [.int .i64 v] 3) (hx:0<=x/\x < d.size) (hy:0<=y/\y < d.size)
    (H:∀ r h' v',(r=(x,y)∨r=(y,x))->U64 B h' s d->Blk h' c [.int .i64 v'] 3->Upd c h h'->k r h'):dC s x y (some ⟨c,0,none⟩) k h:=by
  unfold dC
  refine uJ R hy hx ?_
  cases ltInt d[y.toNat]! d[x.toNat]! with
  | true =>
    rw [if_pos rfl]
    refine ⟨_,rfl,v,by rw [T.cell]; rfl,_,T.wr (by simp),rfl,?_⟩
    have U:Upd c h (setH h ⟨c,0,none⟩ (.int .i64 (IntKind.i64.wrap (v + 1)))):=⟨by rw [lv]; exact Nat.le_refl _,fun i _ hi=>jL hi⟩
    exact H _ _ _ (.inr rfl) (U64.other R T (by decide) U) T.set U
  | false =>
    rw [if_neg (by simp)]
    exact H _ _ _ (.inl rfl) R T (Upd.refl _ _)
theorem OA {c:Nat} {v:Int} {x y z:Int} {k:KP Int} (R:U64 B h s d) (T:Blk h c [.int .i64 v] 3) (hx:0<=x/\x < d.size) (hy:0<=y/\y < d.size) (hz:0<=z/\z < d.size)
    (H:∀ r h' v',(r=x∨r=y∨r=z)->U64 B h' s d->Blk h' c [.int .i64 v'] 3->Upd c h h'->k r h'):eu s x y z (some ⟨c,0,none⟩) k h:=by
  unfold eu
  refine Gy R T hx hy fun r1 h1 v1 e1 R1 T1 U1=>?_
  have q1:(r1.1=x∨r1.1=y)/\(r1.2=x∨r1.2=y):=by rcases e1 with rfl | rfl <;> simp
  refine Gy R1 T1 (by rcases q1.2 with e | e <;> rw [e] <;> assumption) hz fun r2 h2 v2 e2 R2 T2 U2=>?_
  have q2:r2.1=x∨r2.1=y∨r2.1=z:=by
    rcases e2 with rfl | rfl
    · rcases q1.2 with e | e
      · exact .inl e
      · exact .inr (.inl e)
    · exact .inr (.inr rfl)
  refine Gy R2 T2 (by rcases q1.1 with e | e <;> rw [e] <;> assumption) (by rcases q2 with e | e | e <;> rw [e] <;> assumption) fun r3 h3 v3 e3 R3 T3 U3=>?_
  refine H _ h3 v3 ?_ R3 T3 (U1.trans (U2.trans U3))
  rcases e3 with rfl | rfl
  · exact q2
  · rcases q1.1 with e | e
    · exact .inl e
    · exact .inr (.inl e)
theorem KM {k:KP (Int × Int)} (R:U64 B h s d) (ab:a < b) (hs:b<=d.size) (hz:d.size<=32) (H:∀ (p:Nat) (hint:Int) h',a<=p->p < b->U64 B h' s d->Onl s h h'->k ((p:Int),hint) h'):d9 s a b k h:=by
  unfold d9
  rw [aA (x:=(b:Int) - a) (by omega) (by omega)]
  refine ⟨_,rfl,_,_,rfl,rfl,?_⟩
  have T0:=Blk.push h ([.int .i64 0]:List Value) 3
  have E1:=Ext.push h (.cells ([.int .i64 0]:List Value).toArray 3) (Nat.le_refl h.size)
  have R1:=R.pushed (.cells ([.int .i64 0]:List Value).toArray 3)
  generalize h.push (.cells ([.int .i64 0]:List Value).toArray 3)=h1 at *
  have et:Int.tdiv ((b:Int) - a) 4=((b:Int) - a) / 4:=Int.tdiv_eq_ediv_of_nonneg (by omega)
  rw [et,aA (x:=((b:Int) - a) / 4) (by omega) (by omega),aA (x:=((b:Int) - a) / 4 * 1) (by omega) (by omega),aA (x:=((b:Int) - a) / 4 * 2) (by omega) (by omega),aA (x:=((b:Int) - a) / 4 * 3) (by omega) (by omega)]
  rw [aA (x:=(a:Int) + ((b:Int) - a) / 4 * 1) (by omega) (by omega),aA (x:=(a:Int) + ((b:Int) - a) / 4 * 2) (by omega) (by omega),aA (x:=(a:Int) + ((b:Int) - a) / 4 * 3) (by omega) (by omega)]
  refine ⟨_,rfl,_,rfl,_,rfl,?_⟩
  have j1:∀ (p:Int) (h':Heap) (v:Int),(a:Int)<=p->p < b->U64 B h' s d->Blk h' h.size [.int .i64 v] 3->Upd h.size h1 h'->bW ⟨h.size,0,none⟩ p k h':=fun p h' v p0 p1 R' T' U'=>by
    have O:Onl s h h':=⟨Nat.le_trans E1.size U'.size,fun g hg _=>(U'.block g (by have:=E1.size; omega) (by omega)).trans (E1.block g hg)⟩
    have ep:((p.toNat:Nat):Int)=p:=by omega
    unfold bW
    refine ⟨v,by rw [T'.cell]; rfl,?_⟩
    rw [← ep]
    by_cases h1:v=0
    · rw [if_pos (by simpa using h1)]; exact H p.toNat 1 h' (by omega) (by omega) R' O
    · rw [if_neg (by simpa using h1)]
      by_cases h2:v=12
      · rw [if_pos (by simpa using h2)]; exact H p.toNat 2 h' (by omega) (by omega) R' O
      · rw [if_neg (by simpa using h2)]; exact H p.toNat 0 h' (by omega) (by omega) R' O
  by_cases h8:(b:Int) - a>=8
  · rw [if_pos (decide_eq_true h8),if_neg (by rw [decide_eq_true_eq]; omega)]
    unfold dL
    refine OA R1 T0 ⟨by omega,by omega⟩ ⟨by omega,by omega⟩ ⟨by omega,by omega⟩ fun r h2 v e R2 T2 U2=>?_
    exact j1 r h2 v (by rcases e with e | e | e <;> omega) (by rcases e with e | e | e <;> omega) R2 T2 U2
  · rw [if_neg (by rw [decide_eq_true_eq]; exact h8)]
    exact j1 _ h1 0 (by omega) (by omega) R1 T0 (Upd.refl _ _)
/-! ### whether it is sorted -/
theorem NS {k:KP Bool} (R:U64 B h s d) (ab:a < b) (hs:b<=d.size) (hz:d.size<=32) (H1:SortedIn ltInt a b d->k true h) (H2:k false h):bZ s a b k h:=by
  unfold bZ
  rw [aA (by omega) (by omega)]
  refine ⟨_,rfl,?_⟩
  unfold fI
  refine ⟨fun st h'=>h'=h/\st=((a:Int) + 1,0),fun _ _=>0,⟨rfl,rfl⟩,?_⟩
  rintro i0 j0 h' ⟨e,e2⟩
  subst e
  cases e2
  unfold fF
  rw [if_pos (by decide)]
  unfold fO
  refine ⟨fun i h''=>h''=h'/\(a:Int) + 1<=i/\i<=b/\SortedIn ltInt a i.toNat d,fun i _=>(b - i).toNat,⟨rfl,by omega,by omega,fun i j h1 h2 h3=>by omega⟩,?_⟩
  rintro i h'' ⟨e,i0,iB,S⟩
  subst e
  have stop:∀ nx1 nx3,aS s a b i 0 false k nx1 nx3 h'':=fun nx1 nx3=>by
    unfold aS
    rw [if_neg (by simp)]
    by_cases hb:i=b
    · rw [if_pos (by simpa using hb)]
      exact H1 (by rw [hb,Int.toNat_natCast] at S; exact S)
    · rw [if_neg (by simpa using hb),aA (x:=(b:Int) - a) (by omega) (by omega),if_pos (by rw [decide_eq_true_eq]; omega)]
      exact H2
  unfold fD
  by_cases hi:i < b
  · rw [if_pos (decide_eq_true hi),aA (by omega) (by omega)]
    refine uJ R (I:=i) (J:=i - 1) ⟨by omega,by omega⟩ ⟨by omega,by omega⟩ ?_
    cases hl:ltInt d[i.toNat]! d[(i - 1).toNat]! with
    | true=>exact stop _ _
    | false =>
      unfold aS
      rw [if_pos (by simp),aA (by omega) (by omega)]
      refine ⟨_,rfl,⟨rfl,by omega,by omega,?_⟩,by dsimp only; omega⟩
      rw [show (i + 1).toNat=i.toNat + 1 from by omega]
      exact S.snoc swo_ltInt (by rw [show i.toNat - 1=(i - 1).toNat from by omega]; exact hl)
  · rw [if_neg (by rw [decide_eq_true_eq]; exact hi)]
    exact stop _ _
end
end Go.Q.Yq
end
section
namespace Go.Q.Yq
open Go.Sort
/-! ### the sort -/
def PC (s:Slc) (p1 p2 p3:Int) (k:KP Unit) (h:Heap):Prop :=
 ∃ (B:Nat) (d:Array Int) (a b:Nat),U64 B h s d/\p1=a/\p2=b/\a<=b/\b<=d.size/\d.size<=32/\Below ltInt a b d/\(0<=p3/\p3<=1000)/\∀ d' h',U64 B h' s d'->PermIn a b d d'->SortedIn ltInt a b d'->Onl s h h'->k () h'
theorem Mk (Q:FB) {N:Nat} (hQ:∀ s p1 p2 p3 k h,(p2 - p1).toNat < N->PC s p1 p2 p3 k h->Q.R s p1 p2 p3 k h) {s:Slc} {p1 p2 p3:Int} {k:KP Unit} {h:Heap} (hN:(p2 - p1).toNat<=N) (C:PC s p1 p2 p3 k h):dS Q s p1 p2 p3 k h:=by
 obtain ⟨B,d,a,b,R,rfl,rfl,ab,bs,dz,Bl,hl,H⟩:=C
 unfold dS mG
 refine ⟨fun st h'=>∃ (d':Array Int) (a' b':Nat),st.1=a'/\st.2.1=b'/\a<=a'/\a'<=b'/\b'<=b/\U64 B h' s d'/\d'.size=d.size/\Below ltInt a' b' d'/\(0<=st.2.2.1/\st.2.2.1<=1000)/\Onl s h h'/\∀ d2,PermIn a' b' d' d2->SortedIn ltInt a' b' d2->PermIn a b d d2/\SortedIn ltInt a b d2,fun st _=>(st.2.1 - st.1).toNat,
  ⟨d,a,b,rfl,rfl,Nat.le_refl _,ab,Nat.le_refl _,R,rfl,Bl,hl,Onl.refl _ _,fun d2 p q=>⟨p,q⟩⟩,?_⟩
 rintro t1 t2 lim wb wp h1 ⟨d1,a1,b1,e1,e2,aa,ab1,bb,R1,z1,Bl1,hl1,O1,Fi⟩
 dsimp only at e1 e2 hl1
 subst e1; subst e2
 unfold lC
 rw [aA (x:=(b1:Int) - a1) (by omega) (by omega)]
 refine ⟨_,rfl,?_⟩
 have fin:∀ d' h',U64 B h' s d'->PermIn a1 b1 d1 d'->SortedIn ltInt a1 b1 d'->Onl s h1 h'->k () h':=fun d' h' R' P' S' O'=>by
  obtain ⟨q1,q2⟩:=Fi d' P' S'
  exact H d' h' R' q1 q2 (O1.trans O')
 by_cases h12:(b1:Int) - a1<=12
 ·rw [if_pos (decide_eq_true h12)]
  refine PQ R1 ab1 (by omega) (by omega) fun h2 R2 O2=>?_
  obtain ⟨q1,q2⟩:=insertionSort_holds swo_ltInt d1 a1 b1 ab1 (by omega)
  exact fin _ h2 R2 q1 q2 O2
 rw [if_neg (by rw [decide_eq_true_eq]; exact h12)]
 by_cases hl0:lim=0
 ·rw [if_pos (by simpa using hl0)]
  refine Nt R1 (by omega) (by omega) (by omega) fun h2 R2 O2=>?_
  obtain ⟨q1,q2⟩:=heapSort_holds swo_ltInt d1 a1 b1 ab1 (by omega)
  exact fin _ h2 R2 q1 q2 O2
 rw [if_neg (by simpa using hl0)]
 -- the pivot, and on
 have j2:∀ (d2:Array Int) (h2:Heap) (lim':Int),(0<=lim'/\lim'<=1000)->U64 B h2 s d2->PermIn a1 b1 d1 d2->Onl s h1 h2->dH Q s a1 b1 wb wp ((b1:Int) - a1) lim' k (fun st h'=>(∃ (d':Array Int) (a' b':Nat),st.1=a'/\st.2.1=b'/\a<=a'/\a'<=b'/\b'<=b/\U64 B h' s d'/\d'.size=d.size/\Below ltInt a' b' d'/\(0<=st.2.2.1/\st.2.2.1<=1000)/\Onl s h h'/\∀ d2,PermIn a' b' d' d2->SortedIn ltInt a' b' d2->PermIn a b d d2/\SortedIn ltInt a b d2)/\(st.2.1 - st.1).toNat < ((b1:Int) - a1).toNat) h2:=fun d2 h2 lim' hl' R2 P2 O2=>by
  have z2:=P2.1
  have j4:∀ (d3:Array Int) (h3:Heap) (pv:Nat),a1<=pv->pv < b1->U64 B h3 s d3->PermIn a1 b1 d1 d3->Onl s h1 h3->dE Q s a1 b1 lim' wb wp ((b1:Int) - a1) pv k (fun st h'=>(∃ (d':Array Int) (a' b':Nat),st.1=a'/\st.2.1=b'/\a<=a'/\a'<=b'/\b'<=b/\U64 B h' s d'/\d'.size=d.size/\Below ltInt a' b' d'/\(0<=st.2.2.1/\st.2.2.1<=1000)/\Onl s h h'/\∀ d2,PermIn a' b' d' d2->SortedIn ltInt a' b' d2->PermIn a b d d2/\SortedIn ltInt a b d2)/\(st.2.1 - st.1).toNat < ((b1:Int) - a1).toNat) h3:=fun d3 h3 pv pv0 pv1 R3 P3 O3=>by
   have z3:=P3.1
   have Bl3:Below ltInt a1 b1 d3:=Bl1.perm (by omega) P3
   have O03:=O1.trans O3
   have part:bA Q s a1 b1 lim' wb wp ((b1:Int) - a1) pv false k (fun st h'=>(∃ (d':Array Int) (a' b':Nat),st.1=a'/\st.2.1=b'/\a<=a'/\a'<=b'/\b'<=b/\U64 B h' s d'/\d'.size=d.size/\Below ltInt a' b' d'/\(0<=st.2.2.1/\st.2.2.1<=1000)/\Onl s h h'/\∀ d2,PermIn a' b' d' d2->SortedIn ltInt a' b' d2->PermIn a b d d2/\SortedIn ltInt a b d2)/\(st.2.1 - st.1).toNat < ((b1:Int) - a1).toNat) h3:=by
    unfold bA
    rw [if_neg (by simp)]
    refine NW R3 pv0 pv1 (by omega) (by omega) fun h4 R4 O4=>?_
    have O04:=O03.trans O4
    rcases hx:partition ltInt d3 a1 b1 pv with ⟨mid,ap,d4⟩
    rw [hx] at R4
    obtain ⟨g1,g2,z4,B1,B2,hle,hri⟩:=round_part swo_ltInt (partition_holds ltInt) pv0 pv1 (by omega) Bl3 hx
    dsimp only at R4 ⊢
    rw [aA (x:=(mid:Int) - a1) (by omega) (by omega),aA (x:=(b1:Int) - mid) (by omega) (by omega),aA (x:=(mid:Int) + 1) (by omega) (by omega)]
    refine ⟨_,rfl,_,rfl,_,rfl,?_⟩
    by_cases hlt:(mid:Int) - a1 < (b1:Int) - mid
    ·rw [if_pos (decide_eq_true hlt)]
     refine hQ _ _ _ _ _ _ (by omega) ⟨B,d4,a1,mid,R4,rfl,rfl,g1,by omega,by omega,B1,hl',fun d5 h5 R5 P5 S5 O5=>?_⟩
     obtain ⟨B5,f5⟩:=hle d5 P5 S5
     have z5:=P5.1
     refine ⟨_,rfl,⟨d5,mid + 1,b1,by omega,rfl,by omega,by omega,bb,R5,by omega,B5,hl',O04.trans O5,fun d6 P6 S6=>?_⟩,by omega⟩
     obtain ⟨q1,q2⟩:=f5 d6 P6 S6
     exact Fi d6 (permIn_trans _ _ _ a1 b1 P3 q1) q2
    ·rw [if_neg (by rw [decide_eq_true_eq]; exact hlt)]
     refine hQ _ _ _ _ _ _ (by omega) ⟨B,d4,mid + 1,b1,R4,by omega,rfl,by omega,by omega,by omega,B2,hl',fun d5 h5 R5 P5 S5 O5=>?_⟩
     obtain ⟨B5,f5⟩:=hri d5 P5 S5
     have z5:=P5.1
     refine ⟨⟨d5,a1,mid,rfl,rfl,aa,g1,by omega,R5,by omega,B5,hl',O04.trans O5,fun d6 P6 S6=>?_⟩,by omega⟩
     obtain ⟨q1,q2⟩:=f5 d6 P6 S6
     exact Fi d6 (permIn_trans _ _ _ a1 b1 P3 q1) q2
   unfold dE
   by_cases ha0:(a1:Int) > 0
   ·rw [if_pos (decide_eq_true ha0),aA (by omega) (by omega)]
    refine uJ R3 ⟨by omega,by omega⟩ ⟨by omega,by omega⟩ ?_
    rw [show ((a1:Int) - 1).toNat=a1 - 1 from by omega,Int.toNat_natCast]
    cases hl2:ltInt d3[a1 - 1]! d3[pv]! with
    | true=>exact part
    | false =>
     show bA Q s a1 b1 lim' wb wp ((b1:Int) - a1) pv true k _ h3
     unfold bA
     rw [if_pos rfl]
     refine Kl R3 pv0 pv1 (by omega) (by omega) fun h4 R4 O4=>?_
     rcases hx:partitionEqual ltInt d3 a1 b1 pv with ⟨mid,d4⟩
     rw [hx] at R4
     obtain ⟨g1,g2,z4,B1,f4⟩:=round_eq swo_ltInt (partitionEqual_holds ltInt) (by omega) pv0 pv1 (by omega) Bl3 hl2 hx
     dsimp only at R4 ⊢
     refine ⟨⟨d4,mid,b1,rfl,rfl,by omega,g2,bb,R4,by omega,B1,hl',O03.trans O4,fun d6 P6 S6=>?_⟩,by omega⟩
     obtain ⟨q1,q2⟩:=f4 d6 P6 S6
     exact Fi d6 (permIn_trans _ _ _ a1 b1 P3 q1) q2
   ·rw [if_neg (by rw [decide_eq_true_eq]; exact ha0)]
    exact part
  have j3:∀ (d3:Array Int) (h3:Heap) (pv:Nat) (hint:Int),a1<=pv->pv < b1->U64 B h3 s d3->PermIn a1 b1 d1 d3->Onl s h1 h3->dG Q s a1 b1 lim' wb wp ((b1:Int) - a1) pv hint k (fun st h'=>(∃ (d':Array Int) (a' b':Nat),st.1=a'/\st.2.1=b'/\a<=a'/\a'<=b'/\b'<=b/\U64 B h' s d'/\d'.size=d.size/\Below ltInt a' b' d'/\(0<=st.2.2.1/\st.2.2.1<=1000)/\Onl s h h'/\∀ d2,PermIn a' b' d' d2->SortedIn ltInt a' b' d2->PermIn a b d d2/\SortedIn ltInt a b d2)/\(st.2.1 - st.1).toNat < ((b1:Int) - a1).toNat) h3:=fun d3 h3 pv hint pv0 pv1 R3 P3 O3=>by
   have z3:=P3.1
   unfold dG
   by_cases hc:((wb && wp) && (hint == 1))=true
   ·rw [if_pos hc]
    refine NS R3 (by omega) (by omega) (by omega) (fun S=>?_) ?_
    ·rw [if_pos rfl]; exact fin d3 h3 R3 P3 S O3
    ·rw [if_neg (by simp)]; exact j4 d3 h3 pv pv0 pv1 R3 P3 O3
   ·rw [if_neg hc]; exact j4 d3 h3 pv pv0 pv1 R3 P3 O3
  unfold dH
  refine KM R2 (by omega) (by omega) (by omega) fun p hint h3 p0 p1 R3 O3=>?_
  dsimp only
  by_cases h2':hint=2
  ·rw [if_pos (by simpa using h2')]
   refine Ol R3 (by omega) (by omega) (by omega) fun d4 h4 R4 P4 O4=>?_
   rw [aA (x:=(b1:Int) - 1) (by omega) (by omega),aA (x:=(p:Int) - a1) (by omega) (by omega),aA (by omega) (by omega)]
   refine ⟨_,rfl,?_⟩
   have:=j3 d4 h4 (b1 - 1 - (p - a1)) 1 (by omega) (by omega) R4 (permIn_trans _ _ _ a1 b1 P2 P4) (O2.trans (O3.trans O4))
   rw [show ((b1 - 1 - (p - a1):Nat):Int)=(b1:Int) - 1 - ((p:Int) - a1) from by omega] at this
   exact this
  ·rw [if_neg (by simpa using h2')]
   exact j3 d2 h3 p hint p0 p1 R3 P2 (O2.trans O3)
 cases wb with
 | false =>
  rw [if_pos (by simp)]
  refine KT R1 (by omega) (by omega) (by omega) fun d2 h2 R2 P2 O2=>?_
  rw [aA (by omega) (by omega)]
  exact ⟨_,rfl,j2 d2 h2 (lim - 1) ⟨by omega,by omega⟩ R2 P2 O2⟩
 | true =>
  rw [if_neg (by simp)]
  exact j2 d1 h1 lim hl1 R1 (permIn_refl d1 a1 b1) (Onl.refl _ _)
def IE:Nat->FB
 | 0=>⟨fun _ _ _ _ _ _=>False,fun _ _ _ _ _ _ h=>h.elim⟩
 | n + 1=>⟨fun s p1 p2 p3 k h=>dS (IE n) s p1 p2 p3 k h,fun p0 p1 p2 p3 k h H=>Qt (IE n) p0 p1 p2 p3 k h H⟩
theorem Jr:∀ (n:Nat) (s:Slc) (p1 p2 p3:Int) (k:KP Unit) (h:Heap),(p2 - p1).toNat < n->PC s p1 p2 p3 k h->(IE n).R s p1 p2 p3 k h
 | 0,_,_,_,_,_,_,hn,_=>by omega
 | n + 1,s,p1,p2,p3,k,h,hn,C=>Mk (IE n) (N:=n) (fun s p1 p2 p3 k h hn' C'=>Jr n s p1 p2 p3 k h hn' C') (by omega) C
end Go.Q.Yq
end
section
/- slices.Collect of maps.Keys of a map of ops, over the layer's heap. -/
namespace Go.Q.Yq
open Go.Proofs Go.RowKit Go.MapKept
theorem KR {x y:Int} (h:(Value.int .u64 x) = .int .u64 y):x=y:=by cases h; rfl
theorem Mh:∀ ys:List Int,ys.flatMap YuYq.pcs=u8s ys
 | []=>rfl
 | a :: r=>by rw [List.flatMap_cons,Mh r]; rfl
/-- what slices.Collect does: it is asked of maps.Keys of a map of ops -/
def oC (f:Value) (k:KP Slc) (h:Heap):Prop :=
 ∃ (bx r ck:Nat) (es:Array MapEntry) (l:List Int),f = .func (.func 87) #[] #[.pointer (some ⟨bx,0,none⟩)]/\ah h ⟨bx,0,none⟩=some (.map (some r))/\h[r]? = some (.map es ck)/\Stamped es ck /\
  es.toList.map (·.key)=l.map (Value.int .u64)/\l.length<=1000000/\∀ (s:Slc) (xs:List Int) h',xs.Perm l->Row h.size h' 25 1 s (u8s xs)->s.len=xs.length->Ext h.size h h'->k s h'
theorem yC:aF Tryz.prog 85:=⟨_,Tryz.func85,by kernel_rfl,by kernel_rfl⟩
theorem xq (f:Value) (k:KP Slc) (h:Heap) (H:oC f k h):CallsH Tryz.prog 85 #[f] h (fun v h'=>∃ r:Slc,v=Slc.v r/\k r h'):=by
 obtain ⟨bx,r,ck,es,l,rfl,hb,hm,st,hv,hl,H⟩:=H
 intro w hw
 obtain ⟨s1,s2,s3⟩:=(stamped_iff es ck).1 st
 have hbl:bx < w.heap.size:=by rw [hw]; exact om hb
 have hes:es.size=l.length:=by have:=congrArg List.length hv; simpa using this
 have hcs:∀ x∈es.toList,∃ q:Int,x.key=YuYq.pv q:=fun x hx=>by
  have:x.key∈l.map (Value.int .u64):=by rw [← hv]; exact List.mem_map.2 ⟨x,hx,rfl⟩
  obtain ⟨p,_,e⟩:=List.mem_map.1 this
  exact ⟨p,e.symm⟩
 refine (callsIn_wide.1 (YuYq.collect_in Fence.wide 5 trivial trivial trivial rfl (by omega) bx r ck es w hcs s1 s2 (by omega) hbl (by subst hw; exact hb) (by subst hw; exact hm))).mono ?_
 rintro e w' ⟨v,ys,rfl,hp,hrow,B⟩
 obtain ⟨s,rfl,R,hn⟩:=Ej hrow
 subst hw
 refine ⟨_,rfl,⟨B.os,B.tape,B.output,rfl,fun k=>by cases k⟩,s,rfl,H s ys w'.heap ?_ ?_ hn ⟨B.size,B.block⟩⟩
 ·have h1:(ys.map (Value.int .u64)).Perm (l.map (Value.int .u64)):=by rw [← hv]; exact hp
  exact Ab (fun _ _=>KR) h1
 ·rw [← Mh ys]; exact R
end Go.Q.Yq
end
section
namespace Go.Q.Yq
open Go.Proofs.Tryz
/-- maps.Keys map uint64 *quaestor api.Op uint64 *quaestor api.Op  -/
def dU (p0:Option Nat) (k:KP Value) (h:Heap):Prop :=
  ∃ b1 h2,b1=h.size/\h2=h.push (.cells ([.map p0]).toArray 61)/\(k (Value.func (.func 87) #[] #[.pointer (some (ad b1))]) h2)
/-- slices.Sort   uint64 uint64  -/
def iw (p0:Slc) (k:KP Unit) (h:Heap):Prop :=
  ∃ x1,x1=(p0.len:Int)/\(qw (IntKind.u64.wrap x1) (fun r2 h3=>dS (IE 40) p0 0 x1 r2 (fun r4 h5=>k () h5) h3) h)
/-- slices.Sorted uint64  -/
def o9 (p0:Value) (k:KP Slc) (h:Heap):Prop :=
  oC p0 (fun r1 h2=>iw r1 (fun r3 h4=>k r1 h4) h2) h
/-- (*quaestor quorum.Desk).numbers -/
def jX (p0:Option Addr) (k:KP Slc) (h:Heap):Prop :=
  if (p0.isNone) then (k (⟨none,0,0⟩:Slc) h) else (∃ a1,p0=some a1/\(∃ v2,ah h a1=some (.map v2)/\(dU v2 (fun r3 h4=>o9 r3 (fun r5 h6=>k r5 h6) h4) h)))
/-- (*quaestor quorum.Desk).Tick -/
def gP (b_:Option Addr) (d_:Slc) (f_:Int) (a_:Int) (k:KP Unit) (nx1:KP Int) (h_2:Heap):Prop :=
  nx1 (IntKind.i64.wrap (a_ + 1)) h_2
def tQ (d_:Option Addr) (b_:Slc) (f_:Int) (a_:Int) (k:KP Unit) (nx1:KP Int) (h_1:Heap):Prop :=
  if (decide (a_ < f_)) then (∃ a3,b_.a=some a3/\(0:Int)<=a_/\a_ < (b_.len:Int)/\(∃ v4,ah h_1 (a3.add (a_.toNat * 1))=some (.int .u64 v4)/\(∃ a5,d_=some a5/\(∃ v6,ah h_1 a5=some (.map v6)/\(∃ l7:List (Int × Option Addr),MapAt (K:=Int) (V:=Option Addr) (.int .u64) (Value.int .u64) (fun v:Option Addr=>(.pointer v:Value)) h_1 v6 l7/\(∃ a8,((jP l7 v4).getD none)=some a8/\(∃ v9,ah h_1 (a8.add 30)=some (.bool v9)/\(if v9 then (gP d_ b_ f_ a_ k nx1 h_1) else (∃ v10,ah h_1 (a8.add 29)=some (.int .i64 v10)/\(∃ h11,WrH h_1 (a8.add 29)/\h11=setH h_1 (a8.add 29) (.int .i64 (IntKind.i64.wrap (v10 + 1)))/\(∃ v12,ah h11 (a8.add 29)=some (.int .i64 v12)/\(if (decide (v12>=60)) then (∃ h13,WrH h11 (a8.add 30)/\h13=setH h11 (a8.add 30) (.bool true)/\(∃ h14,WrH h13 (a8.add 31)/\h14=setH h13 (a8.add 31) (.int .i64 15)/\(gP d_ b_ f_ a_ k nx1 h14))) else (gP d_ b_ f_ a_ k nx1 h11))))))))))))) else (k () h_1)
def uR (b_:Option Addr) (d_:Slc) (f_:Int) (i8:Int) (k:KP Unit) (h:Heap):Prop :=
  ∃ (I:KP Int) (μ:Int->Heap->Nat),I i8 h/\∀ (a_:Int) (h:Heap),I a_ h->tQ b_ d_ f_ a_ k (fun s h'=>I s h'/\μ s h' < μ a_ h) h
def pW (p0:Option Addr) (k:KP Unit) (h:Heap):Prop :=
  jX p0 (fun r1 h2=>uR p0 r1 (r1.len:Int) 0 k h2) h
theorem O53:aF prog 53:=ck func53
theorem R53 (p0 k h) (H:dU p0 k h):CallsH prog 53 #[.map p0] h (fun v h'=>∃ r:Value,v=r/\k r h'):=by
 refine fE func53 fun w0=>?_
 refine zF [0] (zQ ?_)
 refine wX H fun b1 h2 H=>?_
 refine w1 Z (zE (zQ ?_))
 refine wY (JK rfl rfl) ?_
 refine w1 Z (zE (zT ?_))
 exact aB _ rfl _ rfl ⟨(Value.func (.func 87) #[] #[pt b1]),rfl,H⟩
theorem O86:aF prog 86:=ck func86
theorem R86 (p0 k h) (H:iw p0 k h):CallsH prog 86 #[Slc.v p0] h (rU k):=by
 refine fE func86 fun w0=>?_
 refine zF [0] (zQ ?_)
 refine w2 Z ?_
 refine wQ Z H fun x1 H=>?_
 refine zE (zR (w4 Z ?_))
 refine wC O96 (R96 _ _ _ H) fun r2 h3 H=>?_
 refine wC OY (Qt (IE 40) _ _ _ _ _ _ H) fun r4 h5 H=>?_
 refine zW ?_
 exact CQ _ rfl _ rfl ⟨(),rfl,H⟩
theorem O52:aF prog 52:=ck func52
theorem R52 (p0 k h) (H:o9 p0 k h):CallsH prog 52 #[p0] h (rS k):=by
 refine fE func52 fun w0=>?_
 refine zF [0] (zQ ?_)
 refine w1 Z (zE (zQ ?_))
 refine w1 Z ?_
 refine wC yC (xq _ _ _ H) fun r1 h2 H=>?_
 refine w1 Z (zE (zQ ?_))
 refine w1 Z ?_
 refine wC O86 (R86 _ _ _ H) fun r3 h4 H=>?_
 refine zE (zQ (w2 Z (zE (zF [2] (zT ?_)))))
 exact aB _ rfl _ rfl ⟨r1,rfl,H⟩
theorem O32:aF prog 32:=ck func32
theorem R32 (p0 k h) (H:jX p0 k h):CallsH prog 32 #[.pointer p0] h (rS k):=by
 refine fE func32 fun w0=>?_
 refine zF [0] (zQ ?_)
 refine w1 Z (zE (zS (zQ ?_)))
 refine w2 Z (zE ?_)
 refine zI H ?_ ?_ <;> intro H
 refine zQ (w1 Z (zE (zT (yT ?_))))
 exact aB _ rfl _ rfl ⟨(⟨none,0,0⟩:Slc),rfl,H⟩
 refine zK (zX (zQ (w1 Z ?_)))
 refine wN H fun a1 _ H=>?_
 refine w1 Z ?_
 refine wL Z H fun v2 H=>?_
 refine wC O53 (R53 _ _ _ H) fun r3 h4 H=>?_
 refine wC O52 (R52 _ _ _ H) fun r5 h6 H=>?_
 refine w1 Z (zE (zF [2] (zT ?_)))
 exact aB _ rfl _ rfl ⟨r5,rfl,H⟩
theorem O12:aF prog 12:=ck func12
theorem R12 (p0 k h) (H:pW p0 k h):CallsH prog 12 #[.pointer p0] h (rU k):=by
 refine fE func12 fun w0=>?_
 refine zF [0] (zQ ?_)
 refine w1 Z ?_
 refine wC O32 (R32 _ _ _ H) fun r1 h2 H=>?_
 refine w2 Z (zE (zB ?_))
 obtain ⟨I1,μ1,H0,HI⟩:=H
 refine zO (σ:=Int) [0,6,7] (fun (s:Int)=>[(8,.int .i64 s)]) I1 μ1 0 H0 ?_
 rintro a_ h_1 H
 replace H:=HI a_ h_1 H
 refine zF [8,0,6,7] (zQ ?_)
 refine w1 Z (zE (zS ?_))
 refine zI H ?_ ?_ <;> intro H
 refine zK (zX ?_)
 refine zJ (α:=Unit) [0,6,7,8] (fun (s:Unit)=>[]) (fun (s:Unit) h=>gP p0 r1 (r1.len:Int) a_ k (fun s h'=>I1 s h'/\μ1 s h' < μ1 a_ h_1) h) ?_ ?_
 rintro _ h_2 H
 refine zF [0,6,7,8] (zR ?_)
 refine w2 Z (zW ?_)
 exact xJ (IntKind.i64.wrap (a_ + 1)) H
 refine zB (zQ ?_)
 refine wD Z H fun a3 _ H=>?_
 refine wL Z H fun v4 H=>?_
 refine w1 Z (zE (zQ ?_))
 refine w1 Z ?_
 refine wN H fun a5 _ H=>?_
 refine w1 Z ?_
 refine wL Z H fun v6 H=>?_
 refine w1 Z ?_
 obtain ⟨l7,hl7,H⟩:=H
 refine wY (QL (K:=Int) (V:=(Option Addr)) (d:=(.int .u64)) (kf:=(Value.int .u64)) (vf:=(fun v:Option Addr=>(.pointer v:Value))) (kt:=25) (et:=65) (k:=v4) (z:=none) (m:=v6) (l:=l7) rfl rfl rfl (by kernel_rfl) (by kernel_rfl) (IK .u64) (DC Z (T:=tab) rfl rfl rfl) hl7) ?_
 refine w1 Z (zE (zF [8,0,6,7,4] (zS (zQ ?_))))
 refine w1 Z ?_
 refine wN H fun a8 ha8 H=>?_
 refine w1 Z ?_
 refine wL Z H fun v9 H=>?_
 refine zE ?_
 refine zI H ?_ ?_ <;> intro H
 refine zY (yE (yH ?_))
 exact xJ () H
 refine zK (zX (zQ (w1 Z ?_)))
 refine wY (bP rfl rfl ha8) ?_
 refine w1 Z ?_
 refine wL Z H fun v10 H=>?_
 refine w1 Z ?_
 refine wY (bP rfl rfl ha8) ?_
 refine w1 Z ?_
 refine wT Z H fun h11 H=>?_
 refine zE (zF [8,0,6,7,4] (zQ ?_))
 refine w1 Z ?_
 refine wY (bP rfl rfl ha8) ?_
 refine w1 Z ?_
 refine wL Z H fun v12 H=>?_
 refine w1 Z (zE ?_)
 refine zI H ?_ ?_ <;> intro H
 refine zR (w2 Z ?_)
 refine wY (bP rfl rfl ha8) ?_
 refine w1 Z ?_
 refine wT Z H fun h13 H=>?_
 refine wY (bP rfl rfl ha8) ?_
 refine w1 Z ?_
 refine wT Z H fun h14 H=>?_
 refine zL ?_
 exact xJ () H
 refine zK (yL ?_)
 exact xJ () H
 refine zY (yE (yE (yH ?_)))
 exact CQ _ rfl _ rfl ⟨(),rfl,H⟩
end Go.Q.Yq
end

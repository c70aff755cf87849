/- A part of the proof of statements of this seat: lemmas, no statement of their own. -/
import Derived.Test.YthjafnfadiijgaaYiZah
import Derived.Test.YthjafnfadiijgaaYiZai
import Derived.Test.YthjafnfadiijgaaYiZag
import Derived.Test.YthjafnfadiijgaaYiZad
set_option linter.unusedVariables false
set_option linter.unusedSimpArgs false
set_option maxHeartbeats 1000000
section
namespace Go.Q.Yi
open Go.Sort
/-! ### the two partitions -/
theorem GY {p:Int->Bool} {d:Array Int} {j i:Nat} (h:i<=j) (hp:p d[i]! = true):scanUp p d j i=scanUp p d j (i + 1):=by rw [scanUp,if_pos (by simp [h,hp])]
theorem w9 {p:Int->Bool} {d:Array Int} {j i:Nat} (h:¬ i<=j∨p d[i]! = false):scanUp p d j i=i:=by rw [scanUp,if_neg (by rcases h with h | h <;> simp [h])]
theorem G7 {p:Int->Bool} {d:Array Int} {i j:Nat} (h:i<=j) (h0:0 < j) (hp:p d[j]! = true):scanDown p d i j=scanDown p d i (j - 1):=by
 cases j with
 | zero=>omega
 | succ n=>rw [scanDown,if_pos (by simp [h,hp])]; rfl
theorem xB {p:Int->Bool} {d:Array Int} {i j:Nat} (h:¬ i<=j∨p d[j]! = false):scanDown p d i j=j:=by
 cases j with
 | zero=>rfl
 | succ n=>rw [scanDown,if_neg (by rcases h with h | h <;> simp [h])]
section
variable {B:Nat} {h:Heap} {s:Slc} {d:Array Int} {a b pv:Nat}
theorem Jd {k:KP (Int × Bool)} (R:U64 B h s d) (ha:a<=pv) (hb:pv < b) (hs:b<=d.size) (hz:d.size<=1000)
  (H:∀ h',U64 B h' s (partition ltInt d a b pv).2.2->Onl s h h'->k (((partition ltInt d a b pv).1:Nat),(partition ltInt d a b pv).2.1) h'):dP s a b pv k h:=by
 unfold dP
 refine qC R (I:=pv) (J:=a) ⟨by omega,by omega⟩ ⟨by omega,by omega⟩ fun h1 R1 O1=>?_
 rw [Int.toNat_natCast,Int.toNat_natCast] at R1
 have z1:(swp d a pv).size=d.size:=mY
 have eP:partition ltInt d a b pv=(if scanUp (fun x=>ltInt x (swp d a pv)[a]!) (swp d a pv) (b - 1) (a + 1) > scanDown (fun x=>!ltInt x (swp d a pv)[a]!) (swp d a pv) (scanUp (fun x=>ltInt x (swp d a pv)[a]!) (swp d a pv) (b - 1) (a + 1)) (b - 1) then (scanDown (fun x=>!ltInt x (swp d a pv)[a]!) (swp d a pv) (scanUp (fun x=>ltInt x (swp d a pv)[a]!) (swp d a pv) (b - 1) (a + 1)) (b - 1),true,swp (swp d a pv) (scanDown (fun x=>!ltInt x (swp d a pv)[a]!) (swp d a pv) (scanUp (fun x=>ltInt x (swp d a pv)[a]!) (swp d a pv) (b - 1) (a + 1)) (b - 1)) a) else
   ((partLoop ltInt a (scanUp (fun x=>ltInt x (swp d a pv)[a]!) (swp d a pv) (b - 1) (a + 1) + 1) (scanDown (fun x=>!ltInt x (swp d a pv)[a]!) (swp d a pv) (scanUp (fun x=>ltInt x (swp d a pv)[a]!) (swp d a pv) (b - 1) (a + 1)) (b - 1) - 1) (swp (swp d a pv) (scanUp (fun x=>ltInt x (swp d a pv)[a]!) (swp d a pv) (b - 1) (a + 1)) (scanDown (fun x=>!ltInt x (swp d a pv)[a]!) (swp d a pv) (scanUp (fun x=>ltInt x (swp d a pv)[a]!) (swp d a pv) (b - 1) (a + 1)) (b - 1)))).1,false,
    swp (partLoop ltInt a (scanUp (fun x=>ltInt x (swp d a pv)[a]!) (swp d a pv) (b - 1) (a + 1) + 1) (scanDown (fun x=>!ltInt x (swp d a pv)[a]!) (swp d a pv) (scanUp (fun x=>ltInt x (swp d a pv)[a]!) (swp d a pv) (b - 1) (a + 1)) (b - 1) - 1) (swp (swp d a pv) (scanUp (fun x=>ltInt x (swp d a pv)[a]!) (swp d a pv) (b - 1) (a + 1)) (scanDown (fun x=>!ltInt x (swp d a pv)[a]!) (swp d a pv) (scanUp (fun x=>ltInt x (swp d a pv)[a]!) (swp d a pv) (b - 1) (a + 1)) (b - 1)))).2
     (partLoop ltInt a (scanUp (fun x=>ltInt x (swp d a pv)[a]!) (swp d a pv) (b - 1) (a + 1) + 1) (scanDown (fun x=>!ltInt x (swp d a pv)[a]!) (swp d a pv) (scanUp (fun x=>ltInt x (swp d a pv)[a]!) (swp d a pv) (b - 1) (a + 1)) (b - 1) - 1) (swp (swp d a pv) (scanUp (fun x=>ltInt x (swp d a pv)[a]!) (swp d a pv) (b - 1) (a + 1)) (scanDown (fun x=>!ltInt x (swp d a pv)[a]!) (swp d a pv) (scanUp (fun x=>ltInt x (swp d a pv)[a]!) (swp d a pv) (b - 1) (a + 1)) (b - 1)))).1 a)):=rfl
 rw [eP] at H
 clear eP
 generalize swp d a pv=d1 at *
 rw [az (by omega) (by omega),az (by omega) (by omega)]
 refine ⟨_,rfl,_,rfl,?_⟩
 generalize hi1:scanUp (fun x=>ltInt x d1[a]!) d1 (b - 1) (a + 1)=i1 at *
 generalize hj1:scanDown (fun x=>!ltInt x d1[a]!) d1 i1 (b - 1)=j1 at *
 have ea:((a:Nat):Int).toNat=a:=Int.toNat_natCast a
 unfold jK
 refine ⟨fun i h'=>h'=h1/\(a:Int) + 1<=i/\i<=b/\scanUp (fun x=>ltInt x d1[a]!) d1 (b - 1) i.toNat=i1,fun i _=>(b - i).toNat,⟨rfl,by omega,by omega,by rw [show ((a:Int) + 1).toNat=a + 1 from by omega]; exact hi1⟩,?_⟩
 rintro i h' ⟨rfl,i0,iB,ei⟩
 -- the first scan is over
 have done:i.toNat=i1->bi s a i (b - 1) false k (fun i' h''=>(h''=h'/\(a:Int) + 1<=i'/\i'<=b/\scanUp (fun x=>ltInt x d1[a]!) d1 (b - 1) i'.toNat=i1)/\((b:Int) - i').toNat < ((b:Int) - i).toNat) h':=fun e1=>by
  unfold bi
  rw [if_neg (by simp)]
  unfold jM
  refine ⟨fun j h''=>h''=h'/\i - 1<=j/\j<=b - 1/\scanDown (fun x=>!ltInt x d1[a]!) d1 i1 j.toNat=j1,fun j _=>(j - i + 2).toNat,⟨rfl,by omega,by omega,by rw [show ((b:Int) - 1).toNat=b - 1 from by omega]; exact hj1⟩,?_⟩
  rintro j h2 ⟨e2,j0,jB,ej⟩
  subst e2
  have done2:j.toNat=j1->bn s a i j false k (fun i' h''=>(h''=h2/\(a:Int) + 1<=i'/\i'<=b/\scanUp (fun x=>ltInt x d1[a]!) d1 (b - 1) i'.toNat=i1)/\((b:Int) - i').toNat < ((b:Int) - i).toNat) (fun j' h''=>(h''=h2/\i - 1<=j'/\j'<=b - 1/\scanDown (fun x=>!ltInt x d1[a]!) d1 i1 j'.toNat=j1)/\(j' - i + 2).toNat < (j - i + 2).toNat) h2:=fun e2=>by
   unfold bn
   rw [if_neg (by simp)]
   by_cases hij:i > j
   ·rw [if_pos (decide_eq_true hij)]
    refine qC R1 (I:=a) (J:=j) ⟨by omega,by omega⟩ ⟨by omega,by omega⟩ fun h3 R3 O3=>?_
    rw [if_pos (by omega)] at H
    rw [ea,e2] at R3
    have:=H h3 R3 (O1.trans O3)
    rw [← e2,show ((j.toNat:Nat):Int)=j from by omega] at this
    exact this
   rw [if_neg (by rw [decide_eq_true_eq]; exact hij)]
   rw [if_neg (by omega)] at H
   refine qC R1 (I:=j) (J:=i) ⟨by omega,by omega⟩ ⟨by omega,by omega⟩ fun h3 R3 O3=>?_
   rw [e1,e2] at R3
   rw [az (by omega) (by omega),az (by omega) (by omega)]
   refine ⟨_,rfl,_,rfl,?_⟩
   have z3:(swp d1 i1 j1).size=d.size:=by rw [mY,z1]
   generalize hr:partLoop ltInt a (i1 + 1) (j1 - 1) (swp d1 i1 j1)=r at *
   unfold jL
   refine ⟨fun st h''=>∃ d',U64 B h'' s d'/\d'.size=d.size/\Onl s h h''/\(a:Int) + 1<=st.1/\(a:Int)<=st.2/\st.2<=b - 1/\st.1<=b/\partLoop ltInt a st.1.toNat st.2.toNat d'=r,fun st _=>(st.2 + 1 - st.1).toNat,
    ⟨_,R3,z3,O1.trans O3,by dsimp only; omega,by dsimp only; omega,by dsimp only; omega,by dsimp only; omega,by dsimp only; rw [show (i + 1).toNat=i1 + 1 from by omega,show (j - 1).toNat=j1 - 1 from by omega]; exact hr⟩,?_⟩
   rintro i4 j4 h4 ⟨d4,R4,z4,O4,i40,j40,j4B,i4B,e4⟩
   dsimp only at i40 j40 j4B i4B e4
   rw [partLoop_eq] at e4
   generalize hi5:scanUp (fun x=>ltInt x d4[a]!) d4 j4.toNat i4.toNat=i5 at *
   generalize hj5:scanDown (fun x=>!ltInt x d4[a]!) d4 i5 j4.toNat=j5 at *
   unfold jr jI
   refine ⟨fun i' h''=>h''=h4/\i4<=i'/\i'<=b/\scanUp (fun x=>ltInt x d4[a]!) d4 j4.toNat i'.toNat=i5,fun i' _=>(b - i').toNat,⟨rfl,by omega,by omega,hi5⟩,?_⟩
   rintro i6 h'' ⟨e6,i60,i6B,ei6⟩
   subst e6
   have done3:i6.toNat=i5->∀ nx1 nx3,bq s a i6 j4 false k nx1 nx3 (fun st h''=>(∃ d',U64 B h'' s d'/\d'.size=d.size/\Onl s h h''/\(a:Int) + 1<=st.1/\(a:Int)<=st.2/\st.2<=b - 1/\st.1<=b/\partLoop ltInt a st.1.toNat st.2.toNat d'=r)/\(st.2 + 1 - st.1).toNat < (j4 + 1 - i4).toNat) (fun i' h3=>(h3=h''/\i4<=i'/\i'<=b/\scanUp (fun x=>ltInt x d4[a]!) d4 j4.toNat i'.toNat=i5)/\((b:Int) - i').toNat < ((b:Int) - i6).toNat) h'':=fun e6 nx1 nx3=>by
    unfold bq
    rw [if_neg (by simp)]
    unfold jJ
    refine ⟨fun j' h3=>h3=h''/\(i6<=j' + 1∨j'=j4)/\j'<=j4/\scanDown (fun x=>!ltInt x d4[a]!) d4 i5 j'.toNat=j5,fun j' _=>(j' + 1).toNat,⟨rfl,.inr rfl,by omega,hj5⟩,?_⟩
    rintro j6 h3 ⟨e7,j60,j6B,ej6⟩
    subst e7
    have done4:j6.toNat=j5->bg s a i6 j6 false k nx1 nx3 (fun st h''=>(∃ d',U64 B h'' s d'/\d'.size=d.size/\Onl s h h''/\(a:Int) + 1<=st.1/\(a:Int)<=st.2/\st.2<=b - 1/\st.1<=b/\partLoop ltInt a st.1.toNat st.2.toNat d'=r)/\(st.2 + 1 - st.1).toNat < (j4 + 1 - i4).toNat) (fun i' h3'=>(h3'=h3/\i4<=i'/\i'<=b/\scanUp (fun x=>ltInt x d4[a]!) d4 j4.toNat i'.toNat=i5)/\((b:Int) - i').toNat < ((b:Int) - i6).toNat) (fun j' h3'=>(h3'=h3/\(i6<=j' + 1∨j'=j4)/\j'<=j4/\scanDown (fun x=>!ltInt x d4[a]!) d4 i5 j'.toNat=j5)/\(j' + 1).toNat < (j6 + 1).toNat) h3:=fun e7=>by
     unfold bg
     rw [if_neg (by simp)]
     by_cases hij6:i6 > j6
     ·rw [if_pos (decide_eq_true hij6)]
      refine qC R4 (I:=a) (J:=j6) ⟨by omega,by omega⟩ ⟨by omega,by omega⟩ fun h8 R8 O8=>?_
      rw [if_pos (by omega)] at e4
      rw [ea,e7] at R8
      subst e4
      have:=H h8 R8 (O4.trans O8)
      dsimp only at this
      rw [← e7,show ((j6.toNat:Nat):Int)=j6 from by omega] at this
      exact this
     ·rw [if_neg (by rw [decide_eq_true_eq]; exact hij6)]
      rw [if_neg (by omega)] at e4
      refine qC R4 (I:=j6) (J:=i6) ⟨by omega,by omega⟩ ⟨by omega,by omega⟩ fun h8 R8 O8=>?_
      rw [e6,e7] at R8
      rw [az (by omega) (by omega),az (by omega) (by omega)]
      refine ⟨_,rfl,_,rfl,⟨_,R8,by rw [mY,z4],O4.trans O8,by dsimp only; omega,by dsimp only; omega,by dsimp only; omega,by dsimp only; omega,by dsimp only; rw [show (i6 + 1).toNat=i5 + 1 from by omega,show (j6 - 1).toNat=j5 - 1 from by omega]; exact e4⟩,by dsimp only; omega⟩
    unfold jk
    by_cases hij6:i6<=j6
    ·rw [if_pos (decide_eq_true hij6)]
     refine qE R4 (I:=j6) (J:=a) ⟨by omega,by omega⟩ ⟨by omega,by omega⟩ ?_
     rw [ea]
     cases hl:ltInt d4[j6.toNat]! d4[a]! with
     | true =>
      rw [xB (.inr (by simp [hl]))] at ej6
      exact done4 ej6
     | false =>
      rw [G7 (by omega) (by omega) (by simp [hl])] at ej6
      unfold bg
      rw [if_pos (by simp),az (by omega) (by omega)]
      exact ⟨_,rfl,⟨rfl,.inl (by omega),by omega,by rw [show (j6 - 1).toNat=j6.toNat - 1 from by omega]; exact ej6⟩,by dsimp only; omega⟩
    ·rw [if_neg (by rw [decide_eq_true_eq]; exact hij6)]
     rw [xB (.inl (by omega))] at ej6
     exact done4 ej6
   unfold ji
   by_cases hij6:i6<=j4
   ·rw [if_pos (decide_eq_true hij6)]
    refine qE R4 (I:=i6) (J:=a) ⟨by omega,by omega⟩ ⟨by omega,by omega⟩ ?_
    rw [ea]
    cases hl:ltInt d4[i6.toNat]! d4[a]! with
    | true =>
     rw [GY (by omega) (by simp [hl])] at ei6
     unfold bq
     rw [if_pos (by simp),az (by omega) (by omega)]
     exact ⟨_,rfl,⟨rfl,by omega,by omega,by rw [show (i6 + 1).toNat=i6.toNat + 1 from by omega]; exact ei6⟩,by dsimp only; omega⟩
    | false =>
     rw [w9 (.inr (by simp [hl]))] at ei6
     exact done3 ei6 _ _
   ·rw [if_neg (by rw [decide_eq_true_eq]; exact hij6)]
    rw [w9 (.inl (by omega))] at ei6
    exact done3 ei6 _ _
  unfold jE
  by_cases hij:i<=j
  ·rw [if_pos (decide_eq_true hij)]
   refine qE R1 (I:=j) (J:=a) ⟨by omega,by omega⟩ ⟨by omega,by omega⟩ ?_
   rw [ea]
   cases hl:ltInt d1[j.toNat]! d1[a]! with
   | true =>
    rw [xB (.inr (by simp [hl]))] at ej
    exact done2 ej
   | false =>
    rw [G7 (by omega) (by omega) (by simp [hl])] at ej
    unfold bn
    rw [if_pos (by simp),az (by omega) (by omega)]
    exact ⟨_,rfl,⟨rfl,by omega,by omega,by rw [show (j - 1).toNat=j.toNat - 1 from by omega]; exact ej⟩,by dsimp only; omega⟩
  ·rw [if_neg (by rw [decide_eq_true_eq]; exact hij)]
   rw [xB (.inl (by omega))] at ej
   exact done2 ej
 unfold jG
 by_cases hij:i<=(b:Int) - 1
 ·rw [if_pos (decide_eq_true hij)]
  refine qE R1 (I:=i) (J:=a) ⟨by omega,by omega⟩ ⟨by omega,by omega⟩ ?_
  rw [ea]
  cases hl:ltInt d1[i.toNat]! d1[a]! with
  | true =>
   rw [GY (by omega) (by simp [hl])] at ei
   unfold bi
   rw [if_pos (by simp),az (by omega) (by omega)]
   exact ⟨_,rfl,⟨rfl,by omega,by omega,by rw [show (i + 1).toNat=i.toNat + 1 from by omega]; exact ei⟩,by dsimp only; omega⟩
  | false =>
   rw [w9 (.inr (by simp [hl]))] at ei
   exact done ei
 ·rw [if_neg (by rw [decide_eq_true_eq]; exact hij)]
  rw [w9 (.inl (by omega))] at ei
  exact done ei
theorem Fv {k:KP Int} (R:U64 B h s d) (ha:a<=pv) (hb:pv < b) (hs:b<=d.size) (hz:d.size<=1000)
  (H:∀ h',U64 B h' s (partitionEqual ltInt d a b pv).2->Onl s h h'->k ((partitionEqual ltInt d a b pv).1:Nat) h'):bZ s a b pv k h:=by
 unfold bZ
 refine qC R (I:=pv) (J:=a) ⟨by omega,by omega⟩ ⟨by omega,by omega⟩ fun h1 R1 O1=>?_
 rw [Int.toNat_natCast,Int.toNat_natCast] at R1
 have z1:(swp d a pv).size=d.size:=mY
 have ea:((a:Nat):Int).toNat=a:=Int.toNat_natCast a
 rw [az (by omega) (by omega),az (by omega) (by omega)]
 refine ⟨_,rfl,_,rfl,?_⟩
 unfold partitionEqual at H
 generalize hr:partEqLoop ltInt a (a + 1) (b - 1) (swp d a pv)=r at *
 generalize swp d a pv=d1 at *
 unfold iE
 refine ⟨fun st h''=>∃ d',U64 B h'' s d'/\d'.size=d.size/\Onl s h h''/\(a:Int) + 1<=st.1/\(a:Int)<=st.2/\st.2<=b - 1/\st.1<=b/\partEqLoop ltInt a st.1.toNat st.2.toNat d'=r,fun st _=>(st.2 + 1 - st.1).toNat,
  ⟨_,R1,z1,O1,by dsimp only; omega,by dsimp only; omega,by dsimp only; omega,by dsimp only; omega,by dsimp only; rw [show ((a:Int) + 1).toNat=a + 1 from by omega,show ((b:Int) - 1).toNat=b - 1 from by omega]; exact hr⟩,?_⟩
 rintro i4 j4 h4 ⟨d4,R4,z4,O4,i40,j40,j4B,i4B,e4⟩
 dsimp only at i40 j40 j4B i4B e4
 rw [partEqLoop_eq] at e4
 generalize hi5:scanUp (fun x=>!ltInt d4[a]! x) d4 j4.toNat i4.toNat=i5 at *
 generalize hj5:scanDown (fun x=>ltInt d4[a]! x) d4 i5 j4.toNat=j5 at *
 unfold iq iF
 refine ⟨fun i' h''=>h''=h4/\i4<=i'/\i'<=b/\scanUp (fun x=>!ltInt d4[a]! x) d4 j4.toNat i'.toNat=i5,fun i' _=>(b - i').toNat,⟨rfl,by omega,by omega,hi5⟩,?_⟩
 rintro i6 h'' ⟨e6,i60,i6B,ei6⟩
 subst e6
 have done3:i6.toNat=i5->aS s a i6 j4 false k (fun st h''=>(∃ d',U64 B h'' s d'/\d'.size=d.size/\Onl s h h''/\(a:Int) + 1<=st.1/\(a:Int)<=st.2/\st.2<=b - 1/\st.1<=b/\partEqLoop ltInt a st.1.toNat st.2.toNat d'=r)/\(st.2 + 1 - st.1).toNat < (j4 + 1 - i4).toNat) (fun i' h3=>(h3=h''/\i4<=i'/\i'<=b/\scanUp (fun x=>!ltInt d4[a]! x) d4 j4.toNat i'.toNat=i5)/\((b:Int) - i').toNat < ((b:Int) - i6).toNat) h'':=fun e6=>by
  unfold aS
  rw [if_neg (by simp)]
  unfold iJ
  refine ⟨fun j' h3=>h3=h''/\(i6<=j' + 1∨j'=j4)/\j'<=j4/\scanDown (fun x=>ltInt d4[a]! x) d4 i5 j'.toNat=j5,fun j' _=>(j' + 1).toNat,⟨rfl,.inr rfl,by omega,hj5⟩,?_⟩
  rintro j6 h3 ⟨e7,j60,j6B,ej6⟩
  subst e7
  have done4:j6.toNat=j5->aR s a i6 j6 false k (fun st h''=>(∃ d',U64 B h'' s d'/\d'.size=d.size/\Onl s h h''/\(a:Int) + 1<=st.1/\(a:Int)<=st.2/\st.2<=b - 1/\st.1<=b/\partEqLoop ltInt a st.1.toNat st.2.toNat d'=r)/\(st.2 + 1 - st.1).toNat < (j4 + 1 - i4).toNat) (fun i' h3'=>(h3'=h3/\i4<=i'/\i'<=b/\scanUp (fun x=>!ltInt d4[a]! x) d4 j4.toNat i'.toNat=i5)/\((b:Int) - i').toNat < ((b:Int) - i6).toNat) (fun j' h3'=>(h3'=h3/\(i6<=j' + 1∨j'=j4)/\j'<=j4/\scanDown (fun x=>ltInt d4[a]! x) d4 i5 j'.toNat=j5)/\(j' + 1).toNat < (j6 + 1).toNat) h3:=fun e7=>by
   unfold aR
   rw [if_neg (by simp)]
   by_cases hij6:i6 > j6
   ·rw [if_pos (decide_eq_true hij6)]
    rw [if_pos (by omega)] at e4
    subst e4
    have:=H h3 R4 O4
    dsimp only at this
    rw [← e6,show ((i6.toNat:Nat):Int)=i6 from by omega] at this
    exact this
   ·rw [if_neg (by rw [decide_eq_true_eq]; exact hij6)]
    rw [if_neg (by omega)] at e4
    refine qC R4 (I:=j6) (J:=i6) ⟨by omega,by omega⟩ ⟨by omega,by omega⟩ fun h8 R8 O8=>?_
    rw [e6,e7] at R8
    rw [az (by omega) (by omega),az (by omega) (by omega)]
    refine ⟨_,rfl,_,rfl,⟨_,R8,by rw [mY,z4],O4.trans O8,by dsimp only; omega,by dsimp only; omega,by dsimp only; omega,by dsimp only; omega,by dsimp only; rw [show (i6 + 1).toNat=i5 + 1 from by omega,show (j6 - 1).toNat=j5 - 1 from by omega]; exact e4⟩,by dsimp only; omega⟩
  unfold iw
  by_cases hij6:i6<=j6
  ·rw [if_pos (decide_eq_true hij6)]
   refine qE R4 (I:=a) (J:=j6) ⟨by omega,by omega⟩ ⟨by omega,by omega⟩ ?_
   rw [ea]
   cases hl:ltInt d4[a]! d4[j6.toNat]! with
   | false =>
    rw [xB (.inr (by simp [hl]))] at ej6
    exact done4 ej6
   | true =>
    rw [G7 (by omega) (by omega) (by simp [hl])] at ej6
    unfold aR
    rw [if_pos (by simp),az (by omega) (by omega)]
    exact ⟨_,rfl,⟨rfl,.inl (by omega),by omega,by rw [show (j6 - 1).toNat=j6.toNat - 1 from by omega]; exact ej6⟩,by dsimp only; omega⟩
  ·rw [if_neg (by rw [decide_eq_true_eq]; exact hij6)]
   rw [xB (.inl (by omega))] at ej6
   exact done4 ej6
 unfold iy
 by_cases hij6:i6<=j4
 ·rw [if_pos (decide_eq_true hij6)]
  refine qE R4 (I:=a) (J:=i6) ⟨by omega,by omega⟩ ⟨by omega,by omega⟩ ?_
  rw [ea]
  cases hl:ltInt d4[a]! d4[i6.toNat]! with
  | false =>
   rw [GY (by omega) (by simp [hl])] at ei6
   unfold aS
   rw [if_pos (by simp),az (by omega) (by omega)]
   exact ⟨_,rfl,⟨rfl,by omega,by omega,by rw [show (i6 + 1).toNat=i6.toNat + 1 from by omega]; exact ei6⟩,by dsimp only; omega⟩
  | true =>
   rw [w9 (.inr (by simp [hl]))] at ei6
   exact done3 ei6
 ·rw [if_neg (by rw [decide_eq_true_eq]; exact hij6)]
  rw [w9 (.inl (by omega))] at ei6
  exact done3 ei6
end
end Go.Q.Yi
end
section
namespace Go.Q.Yi
/-! ### how many bits are set -/
theorem uS (a b:Nat):a &&& b=(a % 256 &&& b % 256) + 256 * (a / 256 &&& b / 256):=by
 have h1:=Nat.and_mod_two_pow (a:=a) (b:=b) (n:=8)
 have h2:=Nat.and_div_two_pow (a:=a) (b:=b) (n:=8)
 have h3:=Nat.div_add_mod (a &&& b) 256
 rw [show (2:Nat) ^ 8=256 from rfl] at h1 h2
 omega
def g1 (B:Nat):Nat:=(B / 2 &&& 85) + (B &&& 85)
def g2 (B:Nat):Nat:=(B / 4 &&& 51) + (B &&& 51)
def g3 (B:Nat):Nat:=(B / 16 + B) &&& 15
def msk (m:Nat):Nat->Nat
 | 0=>0
 | k + 1=>m + 256 * msk m k
def kN (f:Nat->Nat):Nat->Nat->Nat
 | 0,_=>0
 | k + 1,x=>f (x % 256) + 256 * kN f k (x / 256)
theorem Bi {m k:Nat} (hm:m < 256):msk m (k + 1) % 256=m/\msk m (k + 1) / 256=msk m k:=by
 show (m + 256 * msk m k) % 256=m/\(m + 256 * msk m k) / 256=msk m k
 omega
theorem xn {p:Nat->Bool} (h:(List.range 256).all p=true) {B:Nat} (hB:B < 256):p B=true:=List.all_eq_true.1 h B (by simpa using hB)
theorem CR {B:Nat} (hB:B < 256):g1 B < 256:=by
 have:=xn (p:=fun B=>decide (g1 B < 256)) (by decide +kernel) hB
 simpa using this
theorem Cu {B:Nat} (hB:B < 256):g2 (g1 B)<=68/\g2 (g1 B) % 16<=4:=by
 have:=xn (p:=fun B=>decide (g2 (g1 B)<=68/\g2 (g1 B) % 16<=4)) (by decide +kernel) hB
 simpa using this
theorem CJ:∀ (k x:Nat),(x / 2 &&& msk 85 k) + (x &&& msk 85 k)=kN g1 k x
 | 0,x=>by show (x / 2 &&& 0) + (x &&& 0)=0; simp
 | k + 1,x=>by
  have ih:=CJ k (x / 256)
  obtain ⟨m1,m2⟩:=Bi (k:=k) (show 85 < 256 by omega)
  rw [uS (x / 2),uS x,m1,m2]
  have key:∀ B,B < 256->∀ c,c < 2->(B / 2 + 128 * c) &&& 85=B / 2 &&& 85:=fun B hB=>by
   have:=xn (p:=fun B=>(List.range 2).all fun c=>((B / 2 + 128 * c) &&& 85) == (B / 2 &&& 85)) (by decide +kernel) hB
   intro c hc
   have:=List.all_eq_true.1 this c (by simpa using hc)
   simpa using this
  have e1:x / 2 % 256=x % 256 / 2 + 128 * (x / 256 % 2):=by omega
  have e2:x / 2 / 256=x / 256 / 2:=by omega
  rw [e1,key _ (Nat.mod_lt _ (by omega)) _ (Nat.mod_lt _ (by omega)),e2]
  show _=g1 (x % 256) + 256 * kN g1 k (x / 256)
  rw [← ih]
  unfold g1
  omega
theorem EA:∀ (k x:Nat),(x / 4 &&& msk 51 k) + (x &&& msk 51 k)=kN g2 k x
 | 0,x=>by show (x / 4 &&& 0) + (x &&& 0)=0; simp
 | k + 1,x=>by
  have ih:=EA k (x / 256)
  obtain ⟨m1,m2⟩:=Bi (k:=k) (show 51 < 256 by omega)
  rw [uS (x / 4),uS x,m1,m2]
  have key:∀ B,B < 256->∀ c,c < 4->(B / 4 + 64 * c) &&& 51=B / 4 &&& 51:=fun B hB=>by
   have:=xn (p:=fun B=>(List.range 4).all fun c=>((B / 4 + 64 * c) &&& 51) == (B / 4 &&& 51)) (by decide +kernel) hB
   intro c hc
   have:=List.all_eq_true.1 this c (by simpa using hc)
   simpa using this
  have e1:x / 4 % 256=x % 256 / 4 + 64 * (x / 256 % 4):=by omega
  have e2:x / 4 / 256=x / 256 / 4:=by omega
  rw [e1,key _ (Nat.mod_lt _ (by omega)) _ (Nat.mod_lt _ (by omega)),e2]
  show _=g2 (x % 256) + 256 * kN g2 k (x / 256)
  rw [← ih]
  unfold g2
  omega
theorem J5 {q:Nat->Nat} (hq:∀ B,B < 256->q B<=68/\q B % 16<=4):∀ (k x:Nat),(kN q k x / 16 + kN q k x) &&& msk 15 k=kN (fun B=>g3 (q B)) k x
 | 0,x=>by show (0 / 16 + 0) &&& 0=0; rfl
 | k + 1,x=>by
  have ih:=J5 hq k (x / 256)
  obtain ⟨m1,m2⟩:=Bi (k:=k) (show 15 < 256 by omega)
  obtain ⟨b1,b2⟩:=hq (x % 256) (Nat.mod_lt _ (by omega))
  have r16:kN q k (x / 256) % 16<=4:=by
   cases k with
   | zero=>show 0 % 16<=4; omega
   | succ k =>
    obtain ⟨_,c2⟩:=hq (x / 256 % 256) (Nat.mod_lt _ (by omega))
    show (q (x / 256 % 256) + 256 * kN q k (x / 256 / 256)) % 16<=4
    omega
  rw [uS,m1,m2]
  show (((q (x % 256) + 256 * kN q k (x / 256)) / 16 + (q (x % 256) + 256 * kN q k (x / 256))) % 256 &&& 15) + 256 * (((q (x % 256) + 256 * kN q k (x / 256)) / 16 + (q (x % 256) + 256 * kN q k (x / 256))) / 256 &&& msk 15 k)=g3 (q (x % 256)) + 256 * kN (fun B=>g3 (q B)) k (x / 256)
  rw [← ih]
  generalize q (x % 256)=B at *
  generalize kN q k (x / 256)=R at *
  have key:∀ B,B < 256->∀ c,c < 16->((B / 16 + 16 * c + B) % 256) &&& 15=(B / 16 + B) &&& 15:=fun B hB=>by
   have:=xn (p:=fun B=>(List.range 16).all fun c=>(((B / 16 + 16 * c + B) % 256) &&& 15) == ((B / 16 + B) &&& 15)) (by decide +kernel) hB
   intro c hc
   have:=List.all_eq_true.1 this c (by simpa using hc)
   simpa using this
  have e1:((B + 256 * R) / 16 + (B + 256 * R)) % 256=(B / 16 + 16 * (R % 16) + B) % 256:=by omega
  have e2:((B + 256 * R) / 16 + (B + 256 * R)) / 256=R / 16 + R:=by omega
  rw [e1,key B (by omega) _ (by omega),e2]
  rfl
theorem AV {f g:Nat->Nat} (hg:∀ B,B < 256->g B < 256):∀ (k x:Nat),kN f k (kN g k x)=kN (fun B=>f (g B)) k x
 | 0,_=>rfl
 | k + 1,x=>by
  have ih:=AV (f:=f) hg k (x / 256)
  have:=hg (x % 256) (Nat.mod_lt _ (by omega))
  show f ((g (x % 256) + 256 * kN g k (x / 256)) % 256) + 256 * kN f k ((g (x % 256) + 256 * kN g k (x / 256)) / 256)=f (g (x % 256)) + 256 * kN (fun B=>f (g B)) k (x / 256)
  rw [← ih,show (g (x % 256) + 256 * kN g k (x / 256)) % 256=g (x % 256) from by omega,show (g (x % 256) + 256 * kN g k (x / 256)) / 256=kN g k (x / 256) from by omega]
theorem Bc {f:Nat->Nat} (h0:f 0=0):∀ k,kN f k 0=0
 | 0=>rfl
 | k + 1=>by show f (0 % 256) + 256 * kN f k (0 / 256)=0; rw [Nat.zero_mod,Nat.zero_div,h0,Bc h0 k]
theorem Hw {f:Nat->Nat} (h0:f 0=0) {x:Nat} (hx:x < 4294967296):kN f 8 x=f (x % 256) + 256 * (f (x / 256 % 256) + 256 * (f (x / 65536 % 256) + 256 * f (x / 16777216 % 256))):=by
 show f (x % 256) + 256 * (f (x / 256 % 256) + 256 * (f (x / 256 / 256 % 256) + 256 * (f (x / 256 / 256 / 256 % 256) + 256 * kN f 4 (x / 256 / 256 / 256 / 256))))=_
 rw [show x / 256 / 256=x / 65536 from by omega,show x / 65536 / 256=x / 16777216 from by omega,show x / 16777216 / 256=0 from by omega,Bc h0]
 omega
def p8 (B:Nat):Nat:=g3 (g2 (g1 B))
def pcR:Nat->Nat->Nat
 | 0,_=>0
 | k + 1,x=>x % 2 + pcR k (x / 2)
theorem Df {B:Nat} (hB:B < 256):p8 B=pcR 8 B:=by
 have:=xn (p:=fun B=>p8 B == pcR 8 B) (by decide +kernel) hB
 simpa using this
theorem Gf:∀ (k x:Nat),pcR k x<=k
 | 0,_=>Nat.le_refl _
 | k + 1,x=>by have:=Gf k (x / 2); show x % 2 + pcR k (x / 2)<=k + 1; omega
theorem ET:∀ (k x:Nat),pcR k (x % 2 ^ k)=pcR k x
 | 0,_=>rfl
 | k + 1,x=>by
  have ih:=ET k (x / 2)
  show x % 2 ^ (k + 1) % 2 + pcR k (x % 2 ^ (k + 1) / 2)=x % 2 + pcR k (x / 2)
  have h1:x % 2 ^ (k + 1) / 2=x / 2 % 2 ^ k:=by
   rw [Nat.pow_succ,Nat.mul_comm,Nat.mod_mul_right_div_self]
  have h2:x % 2 ^ (k + 1) % 2=x % 2:=Nat.mod_mod_of_dvd x ⟨2 ^ k,by rw [Nat.pow_succ,Nat.mul_comm]⟩
  rw [h1,h2,ih]
theorem xY:∀ (j k x:Nat),pcR (j + k) x=pcR j x + pcR k (x / 2 ^ j)
 | 0,k,x=>by simp [pcR]
 | j + 1,k,x=>by
  have ih:=xY j k (x / 2)
  rw [show j + 1 + k=(j + k) + 1 from by omega]
  show x % 2 + pcR (j + k) (x / 2)=x % 2 + pcR j (x / 2) + pcR k (x / 2 ^ (j + 1))
  rw [ih,Nat.div_div_eq_div_mul,show 2 * 2 ^ j=2 ^ (j + 1) from by rw [Nat.pow_succ,Nat.mul_comm]]
  omega
theorem pc32 {x:Nat}:pcR 32 x=pcR 8 (x % 256) + (pcR 8 (x / 256 % 256) + (pcR 8 (x / 65536 % 256) + pcR 8 (x / 16777216 % 256))):=by
 have m:∀ y,pcR 8 (y % 256)=pcR 8 y:=fun y=>ET 8 y
 rw [m,m,m,m,show 32=8 + 24 from rfl,xY,show 24=8 + 16 from rfl,xY,show 16=8 + 8 from rfl,xY]
 rw [show (2:Nat) ^ 8=256 from rfl,show x / 256 / 256=x / 65536 from by omega,show x / 65536 / 256=x / 16777216 from by omega]
theorem sS {a b:Nat} (ha:a < 18446744073709551616) (hb:b < 18446744073709551616):kE .u64 a b=((a &&& b:Nat):Int):=by
 show IntKind.u64.wrap ((BitVec.ofInt 64 (a:Int) &&& BitVec.ofInt 64 (b:Int)).toNat:Int)=_
 rw [ES 64 a b (by omega) (by omega),KR]
 have:a &&& b<=a:=Nat.and_le_left
 omega
theorem Jg {a b:Nat} (ha:a < 18446744073709551616) (hb:b < 18446744073709551616):MM .u64 a b=((a ||| b:Nat):Int):=by
 show IntKind.u64.wrap ((BitVec.ofInt 64 (a:Int) ||| BitVec.ofInt 64 (b:Int)).toNat:Int)=_
 rw [LW 64 a b (by omega) (by omega),KR]
 have:=Nat.or_lt_two_pow (n:=64) (x:=a) (y:=b) (by omega) (by omega)
 omega
theorem DT {a n:Nat} (hn:n<=64):shr .u64 a n=((a / 2 ^ n:Nat):Int):=by
 unfold shr
 rw [show min n IntKind.u64.bits=n from Nat.min_eq_left hn,Int.fdiv_eq_ediv_of_nonneg _ (Int.pow_nonneg (by omega))]
 rw [Int.natCast_ediv]
 simp
theorem JL {v:Nat} (h:v < 9223372036854775808):kE .i64 v 127=((v % 128:Nat):Int):=by
 show IntKind.i64.wrap ((BitVec.ofInt 64 (v:Int) &&& BitVec.ofInt 64 ((127:Nat):Int)).toNat:Int)=_
 rw [ES 64 v 127 (by omega) (by omega)]
 have:v &&& 127=v % 128:=Nat.and_two_pow_sub_one_eq_mod v 7
 rw [this,az (by omega) (by omega)]
theorem Ff {B:Nat} (hB:B < 256):p8 B<=8:=by rw [Df hB]; exact Gf 8 B
theorem Ja {x:Nat} {k:KP Int} {h:Heap} (hx:x < 4294967296) (H:k (pcR 32 x) h):jH x k h:=by
 unfold jH
 have m1:(6148914691236517205:Int)=((msk 85 8:Nat):Int):=by decide +kernel
 have m2:(3689348814741910323:Int)=((msk 51 8:Nat):Int):=by decide +kernel
 have m3:(1085102592571150095:Int)=((msk 15 8:Nat):Int):=by decide +kernel
 have l1:msk 85 8 < 18446744073709551616:=by decide +kernel
 have l2:msk 51 8 < 18446744073709551616:=by decide +kernel
 have l3:msk 15 8 < 18446744073709551616:=by decide +kernel
 have b0:∀ y:Nat,y % 256 < 256:=fun y=>Nat.mod_lt _ (by omega)
 have y1:=Hw (f:=g1) rfl hx
 have hy1:kN g1 8 x < 4294967296:=by
  rw [y1]
  have h1:=CR (b0 x); have h2:=CR (b0 (x / 256)); have h3:=CR (b0 (x / 65536)); have h4:=CR (b0 (x / 16777216))
  omega
 have ec:kN g2 8 (kN g1 8 x)=kN (fun B=>g2 (g1 B)) 8 x:=AV (fun B hB=>CR hB) 8 x
 have y2:=Hw (f:=fun B=>g2 (g1 B)) rfl hx
 have hy2:kN (fun B=>g2 (g1 B)) 8 x < 4294967296:=by
  rw [y2]
  have h1:=(Cu (b0 x)).1; have h2:=(Cu (b0 (x / 256))).1; have h3:=(Cu (b0 (x / 65536))).1; have h4:=(Cu (b0 (x / 16777216))).1
  omega
 have y3:=Hw (f:=p8) rfl hx
 have ep:=pc32 (x:=x)
 rw [← Df (b0 _),← Df (b0 _),← Df (b0 _),← Df (b0 _)] at ep
 have q1:=Ff (b0 x); have q2:=Ff (b0 (x / 256)); have q3:=Ff (b0 (x / 65536)); have q4:=Ff (b0 (x / 16777216))
 have s1:IntKind.u64.wrap (kE .u64 (shr .u64 (x:Int) (1:Int).toNat) 6148914691236517205 + kE .u64 (x:Int) 6148914691236517205)=((kN g1 8 x:Nat):Int):=by
  rw [show (1:Int).toNat=1 from rfl,DT (by omega),m1,sS (by omega) l1,sS (by omega) l1,← Int.natCast_add,Nat.pow_one,CJ,aY (by omega) (by omega)]
 have s2:IntKind.u64.wrap (kE .u64 (shr .u64 ((kN g1 8 x:Nat):Int) (2:Int).toNat) 3689348814741910323 + kE .u64 ((kN g1 8 x:Nat):Int) 3689348814741910323)=((kN (fun B=>g2 (g1 B)) 8 x:Nat):Int):=by
  rw [show (2:Int).toNat=2 from rfl,DT (by omega),m2,sS (by omega) l2,sS (by omega) l2,← Int.natCast_add,show (2:Nat) ^ 2=4 from rfl,EA,ec,aY (by omega) (by omega)]
 have s3:kE .u64 (IntKind.u64.wrap (shr .u64 ((kN (fun B=>g2 (g1 B)) 8 x:Nat):Int) (4:Int).toNat + ((kN (fun B=>g2 (g1 B)) 8 x:Nat):Int))) 1085102592571150095=((kN p8 8 x:Nat):Int):=by
  rw [show (4:Int).toNat=4 from rfl,DT (by omega),← Int.natCast_add,aY (by omega) (by omega),m3,sS (by omega) l3,show (2:Nat) ^ 4=16 from rfl]
  have:=J5 (q:=fun B=>g2 (g1 B)) (fun B hB=>Cu hB) 8 x
  rw [this]; rfl
 refine ⟨_,rfl,_,rfl,_,rfl,_,rfl,_,rfl,_,rfl,_,rfl,?_⟩
 rw [s1,s2,s3]
 generalize kN p8 8 x=z at *
 have hz:z < 16777216 * 9:=by omega
 have z4:IntKind.u64.wrap (((z:Nat):Int) + shr .u64 ((z:Nat):Int) (8:Int).toNat)=((z + z / 256:Nat):Int):=by
  rw [show (8:Int).toNat=8 from rfl,DT (by omega),← Int.natCast_add,show (2:Nat) ^ 8=256 from rfl,aY (by omega) (by omega)]
 rw [z4]
 have z5:IntKind.u64.wrap (((z + z / 256:Nat):Int) + shr .u64 ((z + z / 256:Nat):Int) (16:Int).toNat)=((z + z / 256 + (z + z / 256) / 65536:Nat):Int):=by
  rw [show (16:Int).toNat=16 from rfl,DT (by omega),← Int.natCast_add,show (2:Nat) ^ 16=65536 from rfl,aY (by omega) (by omega)]
 rw [z5]
 have z6:IntKind.u64.wrap (((z + z / 256 + (z + z / 256) / 65536:Nat):Int) + shr .u64 ((z + z / 256 + (z + z / 256) / 65536:Nat):Int) (32:Int).toNat)=((z + z / 256 + (z + z / 256) / 65536 + (z + z / 256 + (z + z / 256) / 65536) / 4294967296:Nat):Int):=by
  rw [show (32:Int).toNat=32 from rfl,DT (by omega),← Int.natCast_add,show (2:Nat) ^ 32=4294967296 from rfl,aY (by omega) (by omega)]
 rw [z6,az (by omega) (by omega),JL (by omega)]
 have:(z + z / 256 + (z + z / 256) / 65536 + (z + z / 256 + (z + z / 256) / 65536) / 4294967296) % 128=pcR 32 x:=by
  generalize p8 (x % 256)=c0 at *
  generalize p8 (x / 256 % 256)=c1 at *
  generalize p8 (x / 65536 % 256)=c2 at *
  generalize p8 (x / 16777216 % 256)=c3 at *
  have e1:z / 256=c1 + 256 * c2 + 65536 * c3:=by omega
  have e2:(z + z / 256) / 65536=c2 + c3 + 256 * c3:=by omega
  have e3:(z + z / 256 + (z + z / 256) / 65536) / 4294967296=0:=by omega
  rw [e3,e2,e1]
  omega
 rw [this]; exact H
/-! a bit is set -/
theorem El:∀ (k i x:Nat),i < k->x / 2 ^ i % 2=0->pcR k (x + 2 ^ i)=pcR k x + 1
 | 0,_,_,h,_=>by omega
 | k + 1,0,x,_,h=>by
  rw [Nat.pow_zero,Nat.div_one] at h
  show (x + 1) % 2 + pcR k ((x + 1) / 2)=x % 2 + pcR k (x / 2) + 1
  rw [show (x + 1) / 2=x / 2 from by omega]; omega
 | k + 1,i + 1,x,hi,h=>by
  have ih:=El k i (x / 2) (by omega) (by rw [Nat.div_div_eq_div_mul,show 2 * 2 ^ i=2 ^ (i + 1) from by rw [Nat.pow_succ,Nat.mul_comm]]; exact h)
  show (x + 2 ^ (i + 1)) % 2 + pcR k ((x + 2 ^ (i + 1)) / 2)=x % 2 + pcR k (x / 2) + 1
  rw [Nat.pow_succ,show (x + 2 ^ i * 2) / 2=x / 2 + 2 ^ i from by omega,ih]
  omega
theorem Dx:∀ (i x:Nat),x / 2 ^ i % 2=0->x ||| 2 ^ i=x + 2 ^ i
 | 0,x,h=>by
  rw [Nat.pow_zero,Nat.div_one] at h
  have h1:=Nat.or_mod_two_pow (a:=x) (b:=1) (n:=1)
  have h2:=Nat.or_div_two_pow (a:=x) (b:=1) (n:=1)
  have h3:=Nat.div_add_mod (x ||| 1) 2
  rw [Nat.pow_one] at h1 h2
  rw [Nat.pow_zero]
  rw [h,show (0 ||| 1 % 2:Nat)=1 from rfl] at h1
  rw [show (1 / 2:Nat)=0 from rfl,Nat.or_zero] at h2
  omega
 | i + 1,x,h=>by
  have ih:=Dx i (x / 2) (by rw [Nat.div_div_eq_div_mul,show 2 * 2 ^ i=2 ^ (i + 1) from by rw [Nat.pow_succ,Nat.mul_comm]]; exact h)
  have h1:=Nat.or_mod_two_pow (a:=x) (b:=2 ^ (i + 1)) (n:=1)
  have h2:=Nat.or_div_two_pow (a:=x) (b:=2 ^ (i + 1)) (n:=1)
  have h3:=Nat.div_add_mod (x ||| 2 ^ (i + 1)) 2
  rw [Nat.pow_one] at h1 h2
  rw [Nat.pow_succ,show 2 ^ i * 2 % 2=0 from by omega,Nat.or_zero] at h1
  rw [Nat.pow_succ,show 2 ^ i * 2 / 2=2 ^ i from by omega,ih] at h2
  rw [Nat.pow_succ] at h3 ⊢
  omega
theorem JI {i j x:Nat} (h:x / 2 ^ i % 2=0):(x + 2 ^ i) / 2 ^ j % 2=if j=i then 1 else x / 2 ^ j % 2:=by
 rcases Nat.lt_trichotomy j i with hj | hj | hj
 ·rw [if_neg (by omega)]
  obtain ⟨m,rfl⟩:∃ m,i=j + (m + 1):=⟨i - j - 1,by omega⟩
  have:x + 2 ^ (j + (m + 1))=x + 2 ^ j * (2 * 2 ^ m):=by rw [Nat.pow_add,Nat.pow_succ 2 m,Nat.mul_comm (2 ^ m) 2]
  rw [this,Nat.add_mul_div_left _ _ (Nat.two_pow_pos j)]
  omega
 ·subst hj
  rw [if_pos rfl,Nat.add_div_right _ (Nat.two_pow_pos j)]
  omega
 ·rw [if_neg (by omega)]
  have key:(x + 2 ^ i) / 2 ^ (i + 1)=x / 2 ^ (i + 1):=by
   rw [Nat.pow_succ,← Nat.div_div_eq_div_mul,← Nat.div_div_eq_div_mul,Nat.add_div_right _ (Nat.two_pow_pos i)]
   omega
  obtain ⟨m,rfl⟩:∃ m,j=(i + 1) + m:=⟨j - i - 1,by omega⟩
  rw [Nat.pow_add,← Nat.div_div_eq_div_mul,← Nat.div_div_eq_div_mul,key]
theorem LF {i n x:Nat} (hi:i < n) (hx:x < 2 ^ n) (h:x / 2 ^ i % 2=0):x + 2 ^ i < 2 ^ n:=by
 rw [← Dx i x h]
 exact Nat.or_lt_two_pow hx (Nat.pow_lt_pow_right (by omega) hi)
end Go.Q.Yi
end
section
namespace Go.Q.Yi
open Go.Sort
def vQ:ByteArray:=⟨#[0,1,2,2,3,3,3,3,4,4,4,4,4,4,4,4,5,5,5,5,5,5,5,5,5,5,5,5,5,5,5,5,6,6,6,6,6,6,6,6,6,6,6,6,6,6,6,6,6,6,6,6,6,6,6,6,6,6,6,6,6,6,6,6,7,7,7,7,7,7,7,7,7,7,7,7,7,7,7,7,7,7,7,7,7,7,7,7,7,7,7,7,7,7,7,7,7,7,7,7,7,7,7,7,7,7,7,7,7,7,7,7,7,7,7,7,7,7,7,7,7,7,7,7,7,7,7,7,8,8,8,8,8,8,8,8,8,8,8,8,8,8,8,8,8,8,8,8,8,8,8,8,8,8,8,8,8,8,8,8,8,8,8,8,8,8,8,8,8,8,8,8,8,8,8,8,8,8,8,8,8,8,8,8,8,8,8,8,8,8,8,8,8,8,8,8,8,8,8,8,8,8,8,8,8,8,8,8,8,8,8,8,8,8,8,8,8,8,8,8,8,8,8,8,8,8,8,8,8,8,8,8,8,8,8,8,8,8,8,8,8,8,8,8,8,8,8,8,8,8,8,8,8,8,8,8]⟩
theorem FH {n:Nat} (hn:n < 256):Ee vQ (n:Int) (bitsLen n:Int):=by
 have h0:vQ.size=256:=by decide +kernel
 refine ⟨by omega,?_⟩
 have key:(List.range 256).all (fun n=>((vQ.data.getD n 0).toNat == bitsLen n))=true:=by decide +kernel
 have:=List.all_eq_true.1 key n (by simpa using hn)
 rw [beq_iff_eq] at this
 have hd:n < vQ.data.size:=by show n < vQ.size; omega
 have e:vQ.data.getD n 0=vQ.data[n]:=by unfold Array.getD; exact dif_pos hd
 rw [e] at this
 rw [← this]
 rfl
theorem Ig {n:Nat} {k:KP Int} {h:Heap} (hn:n < 256) (H:k (bitsLen n) h):nN (n:Int) k h:=by
 have hb:bitsLen n<=8:=by
  have key:(List.range 256).all (fun n=>decide (bitsLen n<=8))=true:=by decide +kernel
  have:=List.all_eq_true.1 key n (by simpa using hn)
  simpa using this
 unfold nN
 rw [if_neg (by simp)]
 unfold qB
 rw [if_neg (by rw [decide_eq_true_eq]; omega)]
 unfold lF
 rw [if_neg (by rw [decide_eq_true_eq]; omega)]
 unfold lM
 rw [if_neg (by rw [decide_eq_true_eq]; omega)]
 unfold lK
 have e:IntKind.u8.wrap (n:Int)=n:=by rw [wU8]; omega
 rw [e]
 refine ⟨_,by omega,FH hn,_,rfl,?_⟩
 rw [az (x:=((bitsLen n:Nat):Int)) (by omega) (by omega),Int.zero_add,az (by omega) (by omega)]
 exact H
end Go.Q.Yi
end

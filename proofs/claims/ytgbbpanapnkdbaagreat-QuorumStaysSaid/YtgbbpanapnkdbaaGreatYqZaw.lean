/- A part of the proof of statements of this seat: lemmas, no statement of their own. -/
import Derived.Test.YtgbbpanapnkdbaaGreatYqZal
import Derived.Test.YtgbbpanapnkdbaaGreatYqZav
import Derived.Test.YtgbbpanapnkdbaaGreatYqZas
set_option linter.unusedVariables false
set_option linter.unusedSimpArgs false
section
set_option maxRecDepth 100000
/- Contracts: numbers, pieces between, sums. -/
namespace Go.Q.Yq
/-! numbers -/
theorem shr63 {n:Int} (b:in64 n):shr .i64 n (63:Int).toNat=n / 18446744073709551616:=by
 obtain ⟨b0,b1⟩:=b
 unfold shr
 rw [show min (63:Int).toNat (IntKind.bits .i64)=63 from rfl,Int.fdiv_eq_ediv_of_nonneg _ (by decide)]
 show n / 9223372036854775808=_
 omega
theorem wrapU (n:Int):IntKind.u64.wrap n=n % 18446744073709551616:=by
 unfold IntKind.wrap; simp [IntKind.signed,IntKind.bits]
theorem wrapI (n:Int):IntKind.i64.wrap n=(n + 9223372036854775808) % 18446744073709551616 - 9223372036854775808:=by
 unfold IntKind.wrap; simp [IntKind.signed,IntKind.bits]; split <;> omega
theorem wd_hi {n:Int} (b0:-2535301200456458802993406410752<=n) (b1:n<=2535301200456458802993406410752):in64 (wd n).f_Hi:=by unfold in64 wd; dsimp only; omega
theorem Wide_ok {n:Int} {k:S_api_Wide->Heap->Prop} {h:Heap} (b:in64 n) (H:∀ h',Ext h.size h h'->k (wd n) h'):num_Wide n k h:=by
 unfold num_Wide
 refine bx rfl (by decide) fun h' B X=>⟨_,CellsAt.of_blk B,?_⟩
 rw [shr63 b,wrapU]
 exact H h' X
abbrev bd2 (n:Int):Prop:=-1267650600228229401496703205376<=n/\n<=1267650600228229401496703205376
theorem Add_ok {a b:Int} {k:S_api_Wide × Int->Heap->Prop} {h:Heap} (ba:bd2 a) (bb:bd2 b) (H:∀ h',Ext h.size h h'->k (wd (a + b),0) h'):num_Add (wd a) (wd b) k h:=by
 unfold num_Add
 refine bx0 fun h2 B1 X1=>bx0 fun h4 B3 X3=>bx0 fun h6 B5 X5=>?_
 have z1:=X1.size
 have z3:=X3.size
 have z5:=X5.size
 have C1:=(B1.ext X3 B1.lt).ext X5 (Nat.lt_of_lt_of_le B1.lt z3)
 have C3:=B3.ext X5 B3.lt
 have l5:=B5.lt
 have ha:0<=(wd a).f_Lo/\(wd a).f_Lo < 18446744073709551616:=by unfold wd; dsimp only; omega
 have hb:0<=(wd b).f_Lo/\(wd b).f_Lo < 18446744073709551616:=by unfold wd; dsimp only; omega
 refine ⟨(wd a).f_Lo,C1.cl rfl,(wd b).f_Lo,C3.cl rfl,⟨ha.1,hb.1,by omega,by omega⟩,_,rfl,_,rfl,(wd a).f_Hi,C1.cl0 rfl,(wd b).f_Hi,C3.cl0 rfl,⟨by rw [wrapU]; omega,by rw [wrapU]; omega,by omega,by omega⟩,_,rfl,_,rfl,?_⟩
 have e1:((wd a).f_Lo + (wd b).f_Lo + 0) % 18446744073709551616=(wd (a + b)).f_Lo:=by unfold wd; dsimp only; omega
 have e2:IntKind.i64.wrap ((IntKind.u64.wrap (wd a).f_Hi + IntKind.u64.wrap (wd b).f_Hi + ((wd a).f_Lo + (wd b).f_Lo + 0) / 18446744073709551616) % 18446744073709551616)=(wd (a + b)).f_Hi:=by
  rw [wrapU,wrapU,wrapI]; unfold wd; dsimp only; omega
 rw [e1,e2]
 refine bx rfl (by decide) fun h9 B9 X9=>?_
 have z9:=X9.size
 have D1:=C1.ext X9 (by omega)
 have D3:=C3.ext X9 (by omega)
 have D5:=B5.ext X9 l5
 have ia:=wd_hi (n:=a) (by omega) (by omega)
 have ib:=wd_hi (n:=b) (by omega) (by omega)
 have ic:=wd_hi (n:=a + b) (by omega) (by omega)
 refine ⟨(wd a).f_Hi,D1.cl0 rfl,(wd b).f_Hi,D3.cl0 rfl,?_⟩
 have fin:num_Add_g1 ⟨h4.size,0,none⟩ ⟨h6.size,0,none⟩ false k h9:=by
  unfold num_Add_g1
  rw [if_neg (by simp)]
  refine ⟨wd (a + b),CellsAt.of_blk B9,bset D5 rfl (Nat.le_refl _) fun h10 F U=>⟨_,CellsAt.of_blk F,H h10 ?_⟩⟩
  exact (X1.trans ((X3.mono z1).trans ((X5.mono (by omega)).trans (X9.mono (by omega))))).trans (U.ext (by omega) (by omega))
 rw [shr63 ia,shr63 ib]
 by_cases hs:(wd a).f_Hi / 18446744073709551616=(wd b).f_Hi / 18446744073709551616
 ·rw [if_pos (by simpa using hs)]
  refine ⟨(wd (a + b)).f_Hi,B9.cl0 rfl,(wd a).f_Hi,D1.cl0 rfl,?_⟩
  rw [shr63 ia,shr63 ic]
  rw [show ((wd (a + b)).f_Hi / 18446744073709551616 != (wd a).f_Hi / 18446744073709551616)=false from by
   have:(wd (a + b)).f_Hi / 18446744073709551616=(wd a).f_Hi / 18446744073709551616:=by unfold wd at hs ⊢; dsimp only at hs ⊢; omega
   simpa using this]
  exact fin
 ·rw [if_neg (by simpa using hs)]
  exact fin
theorem tdiv_fl (a b:Int) (hb:0 < b):a / b=if a.tmod b≠0/\a < 0 then a.tdiv b - 1 else a.tdiv b:=by
 by_cases ha:0<=a
 ·rw [if_neg (by omega),Int.tdiv_eq_ediv_of_nonneg ha]
 ·obtain ⟨m,rfl⟩:∃ m,a = -m:=⟨-a,by omega⟩
  rw [Int.neg_tmod,Int.neg_tdiv,Int.tdiv_eq_ediv_of_nonneg (by omega:0<=m),Int.tmod_eq_emod_of_nonneg (by omega:0<=m)]
  have h1:=Int.emod_nonneg m (by omega:b≠0)
  have h2:=Int.emod_lt_of_pos m hb
  have h3:=Int.emod_add_mul_ediv m b
  by_cases hr:m % b=0
  ·rw [if_neg (by omega)]
   have:-m=b * -(m / b):=by rw [Int.mul_neg]; omega
   rw [this,Int.mul_ediv_cancel_left _ (by omega)]
  ·rw [if_pos (by omega)]
   have:-m=(b - m % b) + b * (-(m / b) - 1):=by rw [Int.mul_sub,Int.mul_neg]; omega
   rw [this,Int.add_mul_ediv_left _ _ (by omega),Int.ediv_eq_zero_of_lt (by omega) (by omega)]
   omega
theorem fl_in {a b:Int} (ha:in64 a) (hb:0 < b):in64 (a / b):=by
 obtain ⟨a0,a1⟩:=ha
 constructor
 ·by_cases h:0<=a
  ·have:=Int.ediv_nonneg h (by omega:0<=b); omega
  ·have:a<=a / b:=by
    have h3:=Int.emod_add_mul_ediv a b
    have h2:=Int.emod_lt_of_pos a hb
    rcases Int.lt_or_le (a / b) a with hlt | hle
    ·have:b * (a / b)<=b * (a - 1):=Int.mul_le_mul_of_nonneg_left (by omega) (by omega)
     rw [Int.mul_sub] at this
     have:b * a<=1 * a:=Int.mul_le_mul_of_nonpos_right (by omega) (by omega)
     omega
    ·exact hle
   omega
 ·by_cases h:0<=a
  ·have:=Int.ediv_le_self b h; omega
  ·have:=Int.ediv_neg_of_neg_of_pos (by omega:a < 0) hb; omega
theorem Floor_ok {a b:Int} {k:Int × Int->Heap->Prop} {h:Heap} (ia:in64 a) (ib:in64 b) (hb:0 < b) (H:k (a / b,0) h):num_Floor a b k h:=by
 unfold num_Floor num_Floor_j1
 rw [if_neg (by simp; omega),if_neg (by simp; omega)]
 have fi:=fl_in ia hb
 have hd:=tdiv_fl a b hb
 obtain ⟨a0,a1⟩:=ia
 obtain ⟨b0,b1⟩:=ib
 have ti:in64 (a.tdiv b):=by
  unfold in64 at *
  by_cases c:a.tmod b≠0/\a < 0
  ·rw [if_pos c] at hd
   have:a.tdiv b<=0:=by
    obtain ⟨m,rfl⟩:∃ m,a = -m:=⟨-a,by omega⟩
    rw [Int.neg_tdiv,Int.tdiv_eq_ediv_of_nonneg (by omega:0<=m)]
    have:=Int.ediv_nonneg (by omega:0<=m) (by omega:0<=b); omega
   omega
  ·rw [if_neg c] at hd; omega
 refine ⟨by omega,_,rfl,by omega,?_⟩
 rw [shr63 ⟨a0,a1⟩,shr63 ⟨b0,b1⟩,wrapI64 ti.1 ti.2]
 have hbz:b / 18446744073709551616=0:=by omega
 by_cases c:a.tmod b≠0/\a < 0
 ·rw [if_pos c] at hd
  rw [if_pos (by rw [hbz]; simp; exact ⟨c.1,by omega⟩)]
  refine ⟨_,rfl,?_⟩
  rw [← hd,wrapI64 fi.1 fi.2]; exact H
 ·rw [if_neg c] at hd
  rw [if_neg (by rw [hbz]; simp only [Bool.and_eq_true,bne_iff_ne]; intro hh; exact c ⟨hh.1,by have:=hh.2; omega⟩)]
  rw [← hd]; exact H
/-! pieces -/
theorem pcs_one (x:Pc):∀ v∈S_api_Piece.cs x,v.oneCell'=true:=fun v hv=>by simp [S_api_Piece.cs,S_api_Id.cs] at hv; rcases hv with rfl | rfl | rfl | rfl | rfl <;> rfl
theorem rcs4 (x:S_api_Row):(S_api_Row.cs x).length=4:=rfl
theorem rcs_one (x:S_api_Row):∀ v∈S_api_Row.cs x,v.oneCell'=true:=fun v hv=>by simp [S_api_Row.cs,S_api_Wide.cs] at hv; rcases hv with rfl | rfl | rfl | rfl <;> rfl
abbrev Pcs (h:Heap) (s:Slc) (l:List Pc):Prop:=LsAt S_api_Piece.cs 5 h s l
theorem wI {i:Int} {n:Nat} (h0:0<=i) (h1:i < (n:Int)) (hn:n<=1000000):IntKind.i64.wrap (i + 1)=i + 1:=wrapI64 (by omega) (by omega)
theorem take1 {α:Type} {l:List α} {i:Int} {x:α} (h0:0<=i) (hx:l[i.toNat]? = some x):l.take (i + 1).toNat=l.take i.toNat ++ [x]:=by
 obtain ⟨hl,e⟩:=List.getElem?_eq_some_iff.1 hx
 rw [show (i + 1).toNat=i.toNat + 1 from by omega,List.take_succ_eq_append_getElem hl,e]
theorem take_all {α:Type} {l:List α} {i:Int} (h:(l.length:Int)<=i):l.take i.toNat=l:=List.take_of_length_le (by omega)
theorem Between_ok {p0:Slc} {l:List Pc} {f t:Int} {k:Slc->Heap->Prop} {h:Heap} (L:Pcs h p0 l) (m:l.length<=1000000)
  (H:∀ s h',Row h.size h' 89 5 s ((l.filter fun p=>decide (f<=p.f_T) && decide (p.f_T<=t)).flatMap S_api_Piece.cs)->s.len=(l.filter fun p=>decide (f<=p.f_T) && decide (p.f_T<=t)).length->Ext h.size h h'->k s h'):piece_Between p0 f t k h:=by
 unfold piece_Between piece_Between_l1
 obtain ⟨fl,efl⟩:∃ fl:Pc->Bool,fl=fun p=>decide (f<=p.f_T) && decide (p.f_T<=t):=⟨_,rfl⟩
 rw [← efl] at H
 refine ⟨fun q h'=>0<=q.2/\q.2<=(l.length:Int)/\Ext h.size h h'/\Row h.size h' 89 5 q.1 (((l.take q.2.toNat).filter fl).flatMap S_api_Piece.cs)/\q.1.len=((l.take q.2.toNat).filter fl).length,fun q _=>l.length - q.2.toNat,⟨by dsimp only; omega,by dsimp only; omega,Ext.refl _ _,by simpa using Row.nil _ _ _ _,by simp⟩,?_⟩
 rintro t7 i h1 ⟨i0,i1,X,R,rl⟩
 dsimp only at i0 i1 R rl ⊢
 unfold piece_Between_l1b
 rw [L.l]
 have z1:=X.size
 by_cases hi:i < (l.length:Int)
 ·rw [if_pos (by simpa using hi)]
  obtain ⟨a,x,ha,g0,g1,hx,hc⟩:=(L.ext X).it i0 hi
  rw [L.l] at g1
  refine ⟨a,ha,g0,g1,x,hc,bx rfl (by decide) fun h5 B X5=>?_⟩
  have z5:=X5.size
  have X05:=X.trans (X5.mono z1)
  have fi:fl x=(decide (f<=x.f_T) && decide (x.f_T<=t)):=by rw [efl]
  have tk:=take1 i0 hx
  have ln:((l.take i.toNat).filter fl).length<=1000000:=Nat.le_trans (List.length_filter_le _ _) (by rw [List.length_take]; omega)
  have R5:=R.ext X5 fun g hg=>(R.bd hg).2
  have nxt:∀ s h6,Ext h.size h h6->Row h.size h6 89 5 s (((l.take (i + 1).toNat).filter fl).flatMap S_api_Piece.cs)->s.len=((l.take (i + 1).toNat).filter fl).length->piece_Between_j2 f t p0 (l.length:Int) i s k (fun s h'=>(0<=s.2/\s.2<=(l.length:Int)/\Ext h.size h h'/\Row h.size h' 89 5 s.1 (((l.take s.2.toNat).filter fl).flatMap S_api_Piece.cs)/\s.1.len=((l.take s.2.toNat).filter fl).length)/\l.length - s.2.toNat < l.length - i.toNat) h6:=fun s h6 X6 R6 l6=>by
   unfold piece_Between_j2
   rw [wI i0 hi m]
   exact ⟨⟨by dsimp only; omega,by dsimp only; omega,X6,R6,l6⟩,by dsimp only; omega⟩
  have g3:∀ b,b=fl x->piece_Between_g3 f t t7 ⟨h1.size,0,none⟩ p0 (l.length:Int) i b k _ h5:=fun b hb=>by
   unfold piece_Between_g3
   cases hf:b with
   | true =>
    rw [if_pos rfl]
    refine ⟨x,CellsAt.of_blk B,bx0 fun h9 B9 X9=>app1 (R5.ext X9 fun g hg=>(R5.bd hg).2) (by have:=X9.size; omega) rfl rfl (pcs_one x) (by omega) (by unfold maxLen; omega) fun s h10 R10 l10 X10=>?_⟩
    have ef:(l.take (i + 1).toNat).filter fl=(l.take i.toNat).filter fl ++ [x]:=by rw [tk,List.filter_append]; simp [← hb,hf]
    refine nxt s h10 ((X05.trans (X9.mono (by omega))).trans X10) ?_ ?_
    ·rw [ef,List.flatMap_append]; simpa using R10
    ·rw [ef,l10,rl]; simp
   | false =>
    rw [if_neg (by simp)]
    have ef:(l.take (i + 1).toNat).filter fl=(l.take i.toNat).filter fl:=by rw [tk,List.filter_append]; simp [← hb,hf]
    refine nxt t7 h5 X05 ?_ ?_
    ·rw [ef]; exact R5
    ·rw [ef]; exact rl
  refine ⟨x.f_T,B.cl rfl,?_⟩
  by_cases hf:f<=x.f_T
  ·rw [if_pos (by simpa using hf)]
   exact ⟨x.f_T,B.cl rfl,g3 _ (by rw [fi]; simp [hf])⟩
  ·rw [if_neg (by simpa using hf)]
   exact g3 _ (by rw [fi]; simp [hf])
 ·rw [if_neg (by simpa using hi)]
  rw [take_all (by omega)] at R rl
  exact H t7 h1 R rl X
/-! sums -/
theorem sumV_take {l:List Pc} {i:Int} {x:Pc} (h0:0<=i) (hx:l[i.toNat]? = some x):sumV (l.take (i + 1).toNat)=sumV (l.take i.toNat) + x.f_V:=by
 rw [take1 h0 hx]; simp [sumV]
theorem sumV_bd:∀ {l:List Pc},(∀ p∈l,in64 p.f_V)->-9223372036854775808 * (l.length:Int)<=sumV l/\sumV l<=9223372036854775808 * (l.length:Int)
 | [],_=>by simp [sumV]
 | x :: l,hb=>by
  have ih:=sumV_bd (l:=l) fun p hp=>hb p (List.mem_cons_of_mem _ hp)
  have hx:=hb x List.mem_cons_self
  unfold in64 at hx
  simp only [sumV,List.map_cons,List.sum_cons,List.length_cons] at *
  omega
theorem sumV_bd2 {l:List Pc} (hb:∀ p∈l,in64 p.f_V) (m:l.length<=1000000):bd2 (sumV l):=by
 have:=sumV_bd hb
 unfold bd2; omega
theorem in_bd2 {n:Int} (h:in64 n):bd2 n:=by unfold in64 at h; unfold bd2; omega
theorem Sum_ok {p0:Slc} {l:List Pc} {k:S_api_Wide->Heap->Prop} {h:Heap} (L:Pcs h p0 l) (m:l.length<=1000000) (hb:∀ p∈l,in64 p.f_V) (H:∀ h',Ext h.size h h'->k (wd (sumV l)) h'):query_sum p0 k h:=by
 unfold query_sum query_sum_l1
 refine bx0 fun h2 B1 X1=>bx0 fun h4 B3 X3=>?_
 have z1:=X1.size
 have z3:=X3.size
 have l1:=B1.lt
 refine ⟨fun i h'=>0<=i/\i<=(l.length:Int)/\Ext h.size h h'/\h4.size<=h'.size/\Blk h' h.size (S_api_Wide.cs ⟨0,0⟩) 116/\Blk h' h2.size (S_api_Wide.cs (wd (sumV (l.take i.toNat)))) 116,fun i _=>l.length - i.toNat,⟨by omega,by omega,X1.trans (X3.mono z1),Nat.le_refl _,B1.ext X3 l1,by simpa [sumV,wd] using B3⟩,?_⟩
 rintro i h5 ⟨i0,i1,X,z5,C1,C3⟩
 unfold query_sum_l1b
 rw [L.l]
 have hz:=X.size
 have hbt:∀ p∈l.take i.toNat,in64 p.f_V:=fun p hp=>hb p (List.mem_of_mem_take hp)
 by_cases hi:i < (l.length:Int)
 ·rw [if_pos (by simpa using hi)]
  obtain ⟨a,x,ha,g0,g1,hx,hc⟩:=(L.ext X).it i0 hi
  rw [L.l] at g1
  refine ⟨a,ha,g0,g1,x,hc,bx rfl (by decide) fun h9 B9 X9=>?_⟩
  have z9:=X9.size
  have D3:=C3.ext X9 C3.lt
  have D1:=C1.ext X9 C1.lt
  have vx:=hb x (List.mem_of_getElem? hx)
  refine ⟨_,CellsAt.of_blk D3,x.f_V,B9.cl rfl,Wide_ok vx fun h13 X13=>⟨(CellsAt.of_blk D3).ext X13,Add_ok (sumV_bd2 hbt (by rw [List.length_take]; omega)) (in_bd2 vx) fun h16 X16=>?_⟩⟩
  have z13:=X13.size
  have z16:=X16.size
  have E3:=(D3.ext X13 D3.lt).ext X16 (Nat.lt_of_lt_of_le D3.lt z13)
  have E1:=(D1.ext X13 D1.lt).ext X16 (Nat.lt_of_lt_of_le D1.lt z13)
  refine bset E3 rfl (Nat.le_refl 2) fun h17 F U=>?_
  have z17:=U.size
  rw [wI i0 hi m]
  refine ⟨⟨by omega,by omega,((X.trans (X9.mono hz)).trans ((X13.mono (by omega)).trans (X16.mono (by omega)))).trans (U.ext (by omega) (by omega)),by omega,U.blk E1 (by omega),?_⟩,by dsimp only; omega⟩
  rw [sumV_take i0 hx]; exact F
 ·rw [if_neg (by simpa using hi)]
  rw [take_all (by omega)] at C3
  refine ⟨_,CellsAt.of_blk C3,bset C1 rfl (Nat.le_refl _) fun h9 F U=>⟨_,CellsAt.of_blk F,H h9 (X.trans (U.ext (by omega) (by omega)))⟩⟩
end Go.Q.Yq
end
section
set_option maxRecDepth 100000
/- Contracts: least, greatest, rates, steps, rows. -/
namespace Go.Q.Yq
theorem QLess_ok {x y:Pc} {k:Int->Heap->Prop} {h:Heap} (H:∀ h',Ext h.size h h'->k (cI x.f_V y.f_V) h'):query_less x y k h:=by
 unfold query_less
 unfold cI at H
 refine bx0 fun h2 B1 X1=>bx0 fun h4 B3 X3=>?_
 have z1:=X1.size
 have C1:=B1.ext X3 B1.lt
 have X:=X1.trans (X3.mono z1)
 refine ⟨x.f_V,C1.cl rfl,y.f_V,B3.cl rfl,?_⟩
 by_cases h1:x.f_V < y.f_V
 ·rw [if_pos (by simpa using h1)]
  rw [if_pos h1] at H; exact ⟨_,rfl,H _ X⟩
 ·rw [if_neg (by simpa using h1)]
  rw [if_neg h1] at H
  refine ⟨x.f_V,C1.cl rfl,y.f_V,B3.cl rfl,?_⟩
  by_cases h2:x.f_V > y.f_V
  ·rw [if_pos (by simpa using h2)]
   rw [if_pos h2] at H; exact H _ X
  ·rw [if_neg (by simpa using h2)]
   rw [if_neg h2] at H; exact H _ X
theorem cI_neg {a b:Int}:cI a b < 0 ↔ a < b:=by unfold cI; split <;> (try split) <;> omega
theorem cI_pos {a b:Int}:cI a b > 0 ↔ a > b:=by unfold cI; split <;> (try split) <;> omega
theorem minV_snoc {g:List Pc} {x:Pc} (hg:g≠[]):minV (g ++ [x])=if x.f_V < minV g then x.f_V else minV g:=by
 cases g with
 | nil=>exact absurd rfl hg
 | cons a r=>simp only [minV,List.cons_append,List.foldl_append,List.foldl_cons,List.foldl_nil]; rfl
theorem maxV_snoc {g:List Pc} {x:Pc} (hg:g≠[]):maxV (g ++ [x])=if x.f_V > maxV g then x.f_V else maxV g:=by
 cases g with
 | nil=>exact absurd rfl hg
 | cons a r=>simp only [maxV,List.cons_append,List.foldl_append,List.foldl_cons,List.foldl_nil]; rfl
theorem Min_ok {p0:Slc} {l:List Pc} {k:Pc->Heap->Prop} {h:Heap} (L:Pcs h p0 l) (m:l.length<=1000000) (ne:l≠[]) (H:∀ y h',y∈l->y.f_V=minV l->Ext h.size h h'->k y h'):slices_MinFunc_api_Piece_api_Piece__query_less p0 k h:=by
 unfold slices_MinFunc_api_Piece_api_Piece__query_less
 have pos:0 < l.length:=List.length_pos_iff.2 ne
 refine bx0 fun h2 B1 X1=>?_
 rw [if_neg (by rw [L.l]; simp; omega)]
 unfold slices_MinFunc_api_Piece_api_Piece__query_less_j1
 have z1:=X1.size
 obtain ⟨a,x,ha,g0,g1,hx,hc⟩:=(L.ext X1).it (i:=0) (Int.le_refl _) (by omega)
 refine ⟨a,ha,g0,g1,x,hc,bx rfl (by decide) fun h7 B5 X5=>?_⟩
 have z5:=X5.size
 unfold slices_MinFunc_api_Piece_api_Piece__query_less_l2
 refine ⟨fun i h'=>1<=i/\i<=(l.length:Int)/\Ext h.size h h'/\h7.size<=h'.size/\Blk h' h.size (S_api_Piece.cs ⟨ByteArray.empty,0,0,⟨0,0⟩⟩) 89/\∃ y,y∈l/\y.f_V=minV (l.take i.toNat)/\Blk h' h2.size (S_api_Piece.cs y) 89,fun i _=>l.length - i.toNat,
  ⟨Int.le_refl _,by omega,X1.trans (X5.mono z1),Nat.le_refl _,B1.ext X5 B1.lt,x,List.mem_of_getElem? hx,?_,B5⟩,?_⟩
 ·cases l with
  | nil=>simp at pos
  | cons b r=>simp at hx; subst hx; rfl
 rintro i h8 ⟨i0,i1,X,z8,C1,y,yl,yv,C5⟩
 unfold slices_MinFunc_api_Piece_api_Piece__query_less_l2b
 rw [L.l]
 have hz:=X.size
 have l1:=B1.lt
 by_cases hi:i < (l.length:Int)
 ·rw [if_pos (by simpa using hi)]
  obtain ⟨a,x,ha,g0,g1,hx,hc⟩:=(L.ext X).it (i:=i) (by omega) hi
  rw [L.l] at g1
  refine ⟨a,ha,g0,g1,x,hc,y,CellsAt.of_blk C5,QLess_ok fun h13 X13=>?_⟩
  have z13:=X13.size
  have D5:=C5.ext X13 C5.lt
  have D1:=C1.ext X13 C1.lt
  have X03:=X.trans (X13.mono hz)
  have tk:=take1 (by omega) hx
  have sn:=minV_snoc (g:=l.take i.toNat) (x:=x) (by intro e; have:=congrArg List.length e; rw [List.length_take,List.length_nil] at this; omega)
  rw [← tk,← yv] at sn
  by_cases hv:x.f_V < y.f_V
  ·rw [if_pos (by simpa using cI_neg.2 hv)]
   rw [if_pos hv] at sn
   refine ⟨a,ha,g0,g1,x,hc.ext X13,bset D5 rfl (Nat.le_refl _) fun h16 F U=>?_⟩
   have z16:=U.size
   refine ⟨_,rfl,?_⟩
   rw [wI (by omega) hi m]
   exact ⟨⟨by omega,by omega,X03.trans (U.ext (by omega) (by omega)),by omega,U.blk D1 (by omega),x,List.mem_of_getElem? hx,sn.symm,F⟩,by dsimp only; omega⟩
  ·rw [if_neg (by simpa using fun h=>hv (cI_neg.1 h))]
   rw [if_neg hv] at sn
   refine ⟨_,rfl,?_⟩
   rw [wI (by omega) hi m]
   exact ⟨⟨by omega,by omega,X03,by omega,D1,y,yl,sn.symm,D5⟩,by dsimp only; omega⟩
 ·rw [if_neg (by simpa using hi)]
  rw [take_all (by omega)] at yv
  exact ⟨y,CellsAt.of_blk C5,bset C1 rfl (Nat.le_refl _) fun h9 F U=>⟨_,CellsAt.of_blk F,H y h9 yl yv (X.trans (U.ext (by omega) (by omega)))⟩⟩
theorem Max_ok {p0:Slc} {l:List Pc} {k:Pc->Heap->Prop} {h:Heap} (L:Pcs h p0 l) (m:l.length<=1000000) (ne:l≠[]) (H:∀ y h',y∈l->y.f_V=maxV l->Ext h.size h h'->k y h'):slices_MaxFunc_api_Piece_api_Piece__query_less p0 k h:=by
 unfold slices_MaxFunc_api_Piece_api_Piece__query_less
 have pos:0 < l.length:=List.length_pos_iff.2 ne
 refine bx0 fun h2 B1 X1=>?_
 rw [if_neg (by rw [L.l]; simp; omega)]
 unfold slices_MaxFunc_api_Piece_api_Piece__query_less_j1
 have z1:=X1.size
 obtain ⟨a,x,ha,g0,g1,hx,hc⟩:=(L.ext X1).it (i:=0) (Int.le_refl _) (by omega)
 refine ⟨a,ha,g0,g1,x,hc,bx rfl (by decide) fun h7 B5 X5=>?_⟩
 have z5:=X5.size
 unfold slices_MaxFunc_api_Piece_api_Piece__query_less_l2
 refine ⟨fun i h'=>1<=i/\i<=(l.length:Int)/\Ext h.size h h'/\h7.size<=h'.size/\Blk h' h.size (S_api_Piece.cs ⟨ByteArray.empty,0,0,⟨0,0⟩⟩) 89/\∃ y,y∈l/\y.f_V=maxV (l.take i.toNat)/\Blk h' h2.size (S_api_Piece.cs y) 89,fun i _=>l.length - i.toNat,
  ⟨Int.le_refl _,by omega,X1.trans (X5.mono z1),Nat.le_refl _,B1.ext X5 B1.lt,x,List.mem_of_getElem? hx,?_,B5⟩,?_⟩
 ·cases l with
  | nil=>simp at pos
  | cons b r=>simp at hx; subst hx; rfl
 rintro i h8 ⟨i0,i1,X,z8,C1,y,yl,yv,C5⟩
 unfold slices_MaxFunc_api_Piece_api_Piece__query_less_l2b
 rw [L.l]
 have hz:=X.size
 have l1:=B1.lt
 by_cases hi:i < (l.length:Int)
 ·rw [if_pos (by simpa using hi)]
  obtain ⟨a,x,ha,g0,g1,hx,hc⟩:=(L.ext X).it (i:=i) (by omega) hi
  rw [L.l] at g1
  refine ⟨a,ha,g0,g1,x,hc,y,CellsAt.of_blk C5,QLess_ok fun h13 X13=>?_⟩
  have z13:=X13.size
  have D5:=C5.ext X13 C5.lt
  have D1:=C1.ext X13 C1.lt
  have X03:=X.trans (X13.mono hz)
  have tk:=take1 (by omega) hx
  have sn:=maxV_snoc (g:=l.take i.toNat) (x:=x) (by intro e; have:=congrArg List.length e; rw [List.length_take,List.length_nil] at this; omega)
  rw [← tk,← yv] at sn
  by_cases hv:x.f_V > y.f_V
  ·rw [if_pos (by simpa using cI_pos.2 hv)]
   rw [if_pos hv] at sn
   refine ⟨a,ha,g0,g1,x,hc.ext X13,bset D5 rfl (Nat.le_refl _) fun h16 F U=>?_⟩
   have z16:=U.size
   refine ⟨_,rfl,?_⟩
   rw [wI (by omega) hi m]
   exact ⟨⟨by omega,by omega,X03.trans (U.ext (by omega) (by omega)),by omega,U.blk D1 (by omega),x,List.mem_of_getElem? hx,sn.symm,F⟩,by dsimp only; omega⟩
  ·rw [if_neg (by simpa using fun h=>hv (cI_pos.1 h))]
   rw [if_neg hv] at sn
   refine ⟨_,rfl,?_⟩
   rw [wI (by omega) hi m]
   exact ⟨⟨by omega,by omega,X03,by omega,D1,y,yl,sn.symm,D5⟩,by dsimp only; omega⟩
 ·rw [if_neg (by simpa using hi)]
  rw [take_all (by omega)] at yv
  exact ⟨y,CellsAt.of_blk C5,bset C1 rfl (Nat.le_refl _) fun h9 F U=>⟨_,CellsAt.of_blk F,H y h9 yl yv (X.trans (U.ext (by omega) (by omega)))⟩⟩
/-! rates -/
theorem Minus_ok {a b:Int} {k:Int × Bool->Heap->Prop} {h:Heap} (ia:in64 a) (ib:in64 b) (H:∀ d,(in64 (a - b)->d=a - b)->k (d,decide (in64 (a - b))) h):query_minus a b k h:=by
 unfold query_minus
 refine ⟨_,rfl,?_⟩
 have e:((decide (IntKind.i64.wrap (a - b) < a)) == (decide (b > 0)))=decide (in64 (a - b)):=by
  rw [wrapI,Bool.eq_iff_iff]
  simp only [beq_iff_eq,decide_eq_decide,decide_eq_true_eq]
  obtain ⟨a0,a1⟩:=ia
  obtain ⟨b0,b1⟩:=ib
  constructor
  ·intro h; exact ⟨by omega,by omega⟩
  ·rintro ⟨h,h2⟩; omega
 rw [e]
 exact H _ fun hi=>wrapI64 hi.1 hi.2
theorem Rate_ok {p0:Slc} {l:List Pc} {k:Int × Int->Heap->Prop} {h:Heap} (L:Pcs h p0 l) (m:l.length<=1000000) (hb:∀ p∈l,in64 p.f_V/\in64 p.f_T) {a b:Pc} (ha:l.head? = some a) (hl:l.getLast? = some b) (ht:a.f_T < b.f_T)
  (H0:∀ h',rateP l=none->Ext h.size h h'->k (0,19) h') (H1:∀ n h',rateP l=some n->in64 n->Ext h.size h h'->k (n,0) h'):query_rate p0 k h:=by
 have ab:=hb a (List.mem_of_mem_head? ha)
 have bb:=hb b (List.mem_of_getLast? hl)
 have ne:l≠[]:=by rintro rfl; cases ha
 have pos:0 < l.length:=List.length_pos_iff.2 ne
 have ha0:l[(0:Int).toNat]? = some a:=by rw [← ha,List.head?_eq_getElem?]; rfl
 have hlw:IntKind.i64.wrap ((p0.len:Int) - 1)=(l.length:Int) - 1:=by rw [L.l,wrapI64 (by omega) (by omega)]
 have hb0:l[((l.length:Int) - 1).toNat]? = some b:=by rw [← hl,List.getLast?_eq_getElem?]; congr 1; omega
 have j1:∀ x y h',Ext h.size h h'->Blk h' x (S_api_Piece.cs a) 89->Blk h' y (S_api_Piece.cs b) 89->query_rate_j1 ⟨x,0,none⟩ ⟨y,0,none⟩ k h':=fun x y h' X A B=>by
  unfold query_rate_j1
  refine ⟨b.f_V,B.cl rfl,a.f_V,A.cl rfl,Minus_ok bb.1 ab.1 fun dv ev=>⟨b.f_T,B.cl rfl,a.f_T,A.cl rfl,Minus_ok bb.2 ab.2 fun dt et=>?_⟩⟩
  by_cases c:in64 (b.f_V - a.f_V)/\in64 (b.f_T - a.f_T)
  ·rw [if_neg (by simp [c.1,c.2])]
   rw [ev c.1,et c.2]
   refine Floor_ok c.1 c.2 (by omega) (H1 _ h' ?_ (fl_in c.1 (by omega)) X)
   unfold rateP; rw [ha,hl]; dsimp only; rw [if_pos c]
  ·rw [if_pos (by
    by_cases c1:in64 (b.f_V - a.f_V)
    ·simp [show ¬ in64 (b.f_T - a.f_T) from fun c2=>c ⟨c1,c2⟩]
    ·simp [c1])]
   exact H0 h' (by unfold rateP; rw [ha,hl]; dsimp only; rw [if_neg c]) X
 unfold query_rate
 rw [hlw]
 obtain ⟨x,v,hx,x0,x1,xv,xc⟩:=L.it (i:=0) (Int.le_refl _) (by omega)
 rw [ha0] at xv; cases xv
 obtain ⟨y,w,hy,y0,y1,yv,yc⟩:=L.it (i:=(l.length:Int) - 1) (by omega) (by omega)
 rw [hb0] at yv; cases yv
 refine ⟨x,hx,x0,x1,a,xc,y,hy,y0,y1,b,yc,?_,?_⟩
 ·refine bx0 fun h2 B1 X1=>⟨yc.ext X1,xc.ext X1,bx0 fun h3 B3 X3=>?_⟩
  have z1:=X1.size
  have z3:=X3.size
  have X:=X1.trans (X3.mono z1)
  refine ⟨yc.ext X,xc.ext X,bset (B1.ext X3 B1.lt) rfl (by decide) fun h4 C U=>?_⟩
  have Xu:=X.trans (U.ext (Nat.le_refl _) (by omega))
  have z4:=U.size
  have l1:=B1.lt
  refine ⟨yc.ext Xu,bset (U.blk B3 (by omega)) rfl (by decide) fun h5 D V=>j1 _ _ h5 (Xu.trans (V.ext (by omega) (by omega))) (V.blk C (by omega)) D⟩
 ·refine bx0 fun h2 B1 X1=>⟨yc.ext X1,xc.ext X1,bx0 fun h3 B3 X3=>?_⟩
  have z1:=X1.size
  have z3:=X3.size
  have X:=X1.trans (X3.mono z1)
  have l1:=B1.lt
  refine ⟨yc.ext X,xc.ext X,bset B3 rfl (by decide) fun h4 C U=>?_⟩
  have Xu:=X.trans (U.ext (by omega) (by omega))
  have z4:=U.size
  refine ⟨yc.ext Xu,bset (U.blk (B1.ext X3 l1) (by omega)) rfl (by decide) fun h5 D V=>j1 _ _ h5 (Xu.trans (V.ext (Nat.le_refl _) (by omega))) (V.blk C (by omega)) D⟩
end Go.Q.Yq
end
section
set_option maxRecDepth 100000
/- Contracts: steps, rows, groups. -/
namespace Go.Q.Yq
/-! steps -/
def rvs (rs:List RI):List Value:=(rs.map toRow).flatMap S_api_Row.cs
theorem rvs_len (rs:List RI):(rvs rs).length=rs.length * 4:=by unfold rvs; rw [fm_len rcs4,List.length_map]
theorem rvs_app (a b:List RI):rvs (a ++ b)=rvs a ++ rvs b:=by unfold rvs; rw [List.map_append,List.flatMap_append]
theorem rvs_one (r:RI):rvs [r]=S_api_Row.cs (toRow r):=by unfold rvs; simp
theorem rvs_cells (rs:List RI):∀ v∈rvs rs,v.oneCell'=true:=fun v hv=>by
 obtain ⟨x,_,h⟩:=List.mem_flatMap.1 hv; exact rcs_one x v h
theorem eachP_snoc (step:Int) (g:List Pc) (x:Pc):eachP step (g ++ [x])=eachE step (eachP step g) x:=by unfold eachP; rw [List.foldl_append]; rfl
theorem last_split {α:Type} {l:List α} {r:α} (h:l.getLast? = some r):l=l.dropLast ++ [r]:=by
 have ne:l≠[]:=by rintro rfl; cases h
 rw [List.getLast?_eq_some_getLast ne] at h
 cases h
 exact (List.dropLast_concat_getLast ne).symm
theorem eachE_len (step:Int) (o:List RI) (p:Pc):(eachE step o p).length<=o.length + 1:=by
 unfold eachE
 split
 ·split
  ·rw [List.length_append,List.length_dropLast]; simp
  ·simp
 ·simp
theorem Each_ok {p0:Slc} {l:List Pc} {step:Int} {k:Slc->Heap->Prop} {h:Heap} (L:Pcs h p0 l) (m:l.length<=1000000) (hb:∀ p∈l,in64 p.f_V/\in64 p.f_T) (s0:0 < step) (s1:in64 step)
  (H:∀ s h',Row h.size h' 118 4 s (rvs (eachP step l))->s.len=(eachP step l).length->Ext h.size h h'->k s h'):query_each p0 step k h:=by
 unfold query_each query_each_l1
 refine ⟨fun q h'=>0<=q.2/\q.2<=(l.length:Int)/\Ext h.size h h'/\Row h.size h' 118 4 q.1 (rvs (eachP step (l.take q.2.toNat)))/\q.1.len=(eachP step (l.take q.2.toNat)).length/\q.1.len<=q.2.toNat/\∀ r∈eachP step (l.take q.2.toNat),-9223372036854775808 * q.2<=r.2.2/\r.2.2<=9223372036854775808 * q.2,
  fun q _=>l.length - q.2.toNat,⟨by dsimp only; omega,by dsimp only; omega,Ext.refl _ _,by simpa [eachP,rvs] using Row.nil _ _ _ _,by simp [eachP],by simp,by simp [eachP]⟩,?_⟩
 rintro t5 i h1 ⟨i0,i1,X,R,rl,rli,bd⟩
 dsimp only at i0 i1 R rl rli bd ⊢
 unfold query_each_l1b
 rw [L.l]
 have z1:=X.size
 by_cases hi:i < (l.length:Int)
 ·rw [if_pos (by simpa using hi)]
  obtain ⟨a,x,ha,g0,g1,hx,hc⟩:=(L.ext X).it i0 hi
  rw [L.l] at g1
  have vx:=hb x (List.mem_of_getElem? hx)
  refine ⟨a,ha,g0,g1,x,hc,bx rfl (by decide) fun h5 B X5=>⟨x.f_T,B.cl rfl,Floor_ok vx.2 s1 s0 ⟨_,rfl,?_⟩⟩⟩
  have z5:=X5.size
  have X05:=X.trans (X5.mono z1)
  have R5:=R.ext X5 fun g hg=>(R.bd hg).2
  have tk:=take1 i0 hx
  have sn:eachP step (l.take (i + 1).toNat)=eachE step (eachP step (l.take i.toNat)) x:=by rw [tk,eachP_snoc]
  obtain ⟨o,eo⟩:∃ o,o=eachP step (l.take i.toNat):=⟨_,rfl⟩
  rw [← eo] at R R5 rl bd sn
  show (if decide ((t5.len:Int) > 0)=true then _ else _)
  have nxt:∀ s h6,Ext h.size h h6->Row h.size h6 118 4 s (rvs (eachP step (l.take (i + 1).toNat)))->s.len=(eachP step (l.take (i + 1).toNat)).length->(∀ r∈eachP step (l.take (i + 1).toNat),-9223372036854775808 * (i + 1)<=r.2.2/\r.2.2<=9223372036854775808 * (i + 1))->query_each_j2 step p0 (l.length:Int) i s k (fun q h'=>(0<=q.2/\q.2<=(l.length:Int)/\Ext h.size h h'/\Row h.size h' 118 4 q.1 (rvs (eachP step (l.take q.2.toNat)))/\q.1.len=(eachP step (l.take q.2.toNat)).length/\q.1.len<=q.2.toNat/\∀ r∈eachP step (l.take q.2.toNat),-9223372036854775808 * q.2<=r.2.2/\r.2.2<=9223372036854775808 * q.2)/\l.length - q.2.toNat < l.length - i.toNat) h6:=fun s h6 X6 R6 l6 b6=>by
   unfold query_each_j2
   rw [wI i0 hi m]
   refine ⟨⟨by dsimp only; omega,by dsimp only; omega,X6,R6,l6,?_,b6⟩,by dsimp only; omega⟩
   have:=eachE_len step o x
   rw [← sn] at this
   dsimp only; omega
  have vb:=vx.1
  unfold in64 at vb
  have push:(∀ r,o.getLast? = some r->r.2.1≠atP step x)->query_each_g3 step t5 ⟨h1.size,0,none⟩ (atP step x) p0 (l.length:Int) i false k (fun q h'=>(0<=q.2/\q.2<=(l.length:Int)/\Ext h.size h h'/\Row h.size h' 118 4 q.1 (rvs (eachP step (l.take q.2.toNat)))/\q.1.len=(eachP step (l.take q.2.toNat)).length/\q.1.len<=q.2.toNat/\∀ r∈eachP step (l.take q.2.toNat),-9223372036854775808 * q.2<=r.2.2/\r.2.2<=9223372036854775808 * q.2)/\l.length - q.2.toNat < l.length - i.toNat) h5:=fun hne=>by
   unfold query_each_g3
   rw [if_neg (by simp)]
   have eE:eachE step o x=o ++ [(x.f_Series,atP step x,x.f_V)]:=by
    unfold eachE
    cases hl:o.getLast? with
    | none=>rw [List.getLast?_eq_none_iff.1 hl]; rfl
    | some r=>dsimp only; rw [if_neg (hne r hl)]
   refine ⟨_,B.cl0 rfl,x.f_V,B.cl rfl,Wide_ok vx.1 fun h6 X6=>⟨(B.ext X6 B.lt).cl0 rfl,bx0 fun h7 B7 X7=>app1 ((R5.ext X6 fun g hg=>(R5.bd hg).2).ext X7 fun g hg=>Nat.lt_of_lt_of_le (R5.bd hg).2 X6.size) (by have:=X6.size; have:=X7.size; omega) rfl rfl (rcs_one _) (by omega) (by unfold maxLen; omega) fun s h8 R8 l8 X8=>?_⟩⟩
   have z6:=X6.size
   have z7:=X7.size
   refine nxt s h8 (((X05.trans (X6.mono (by omega))).trans (X7.mono (by omega))).trans X8) ?_ ?_ ?_
   ·rw [sn,eE,rvs_app,rvs_one]; exact R8
   ·rw [sn,eE,l8,rl]; simp
   ·rw [sn,eE]
    intro r hr
    rcases List.mem_append.1 hr with hr | hr
    ·have:=bd r hr; omega
    ·simp only [List.mem_singleton] at hr; subst hr; dsimp only; omega
  by_cases hp:(t5.len:Int) > 0
  ·rw [if_pos (by simpa using hp)]
   rw [wrapI64 (by omega) (by omega)]
   obtain ⟨r,hr⟩:∃ r,o.getLast? = some r:=⟨_,List.getLast?_eq_some_getLast (by rintro rfl; simp at rl; omega)⟩
   have sp:=last_split hr
   obtain ⟨d,ed⟩:∃ d,d=o.dropLast:=⟨_,rfl⟩
   rw [← ed] at sp
   have dl:t5.len=d.length + 1:=by rw [rl,sp]; simp
   have rv:rvs o=rvs d ++ S_api_Row.cs (toRow r):=by rw [sp,rvs_app,rvs_one]
   have cell:∀ j,j < 4->∃ a,t5.a=some a/\cellH h5 (a.add (d.length * 4 + j))=(S_api_Row.cs (toRow r))[j]?:=fun j hj=>by
    obtain ⟨a,ha,hc⟩:=R5.at (j:=d.length * 4 + j) (by omega)
    refine ⟨a,ha,hc.trans ?_⟩
    rw [rv,List.getElem?_append_right (by rw [rvs_len]; omega),rvs_len]; congr 1; omega
   obtain ⟨a2,ha2,hc2⟩:=cell 1 (by omega)
   have en:((t5.len:Int) - 1).toNat=d.length:=by omega
   refine ⟨a2,ha2,by omega,by omega,r.2.1,by rw [add_add2,en]; exact hc2,?_⟩
   by_cases he:r.2.1=atP step x
   ·rw [show (r.2.1 == IntKind.i64.wrap (x.f_T / step * step))=true from by rw [beq_iff_eq]; exact he]
    unfold query_each_g3
    rw [if_pos rfl]
    have rb:=bd r (by rw [sp]; simp)
    obtain ⟨_,e2,hc3⟩:=cell 2 (by omega)
    obtain ⟨_,e3,hc4⟩:=cell 3 (by omega)
    rw [ha2] at e2 e3
    cases e2; cases e3
    have cw:CellsAt h5 ((a2.add (((t5.len:Int) - 1).toNat * 4)).add 2) (S_api_Wide.cs (wd r.2.2)):=fun j v hj=>by
     rw [add_add2,add_add2,en]
     match j,hj with
     | 0,hj=>rw [show d.length * 4 + 2 + 0=d.length * 4 + 2 from rfl,hc3]; exact hj
     | 1,hj=>rw [show d.length * 4 + 2 + 1=d.length * 4 + 3 from rfl,hc4]; exact hj
     | j + 2,hj=>simp [S_api_Wide.cs] at hj
    have hrw:IntKind.i64.wrap ((t5.len:Int) - 1)=(t5.len:Int) - 1:=wrapI64 (by omega) (by omega)
    rw [hrw]
    refine ⟨a2,ha2,by omega,by omega,wd r.2.2,cw,x.f_V,B.cl rfl,Wide_ok vx.1 fun h6 X6=>⟨cw.ext X6,Add_ok (by unfold bd2; omega) (in_bd2 vx.1) fun h7 X7=>⟨a2,ha2,by omega,by omega,?_⟩⟩⟩
    have z6:=X6.size
    have z7:=X7.size
    have R7:=(R5.ext X6 fun g hg=>(R5.bd hg).2).ext X7 fun g hg=>Nat.lt_of_lt_of_le (R5.bd hg).2 z6
    obtain ⟨w1,w2,w3⟩:=row_setp (o:=d.length * 4 + 2) (vs:=S_api_Wide.cs (wd (r.2.2 + x.f_V))) R7 (by show d.length * 4 + 2 + 2<=t5.len * 4; omega) (by show 0 < 2; decide) ha2
    have ea:(a2.add (((t5.len:Int) - 1).toNat * 4)).add 2=a2.add (d.length * 4 + 2):=by rw [add_add2,en]
    rw [ea]
    refine ⟨_,w1,rfl,nxt t5 _ ?_ ?_ ?_ ?_⟩
    ·exact ((X05.trans (X6.mono (by omega))).trans (X7.mono (by omega))).trans (Ext.sets _ _ _ (by show h.size<=(a2.add _).block; rw [show (a2.add (d.length * 4 + 2)).block=a2.block from by unfold Addr.add; split <;> rfl]; exact w3))
    ·have eE:eachE step o x=d ++ [(r.1,r.2.1,r.2.2 + x.f_V)]:=by unfold eachE; rw [hr]; dsimp only; rw [if_pos he,ed]
     rw [sn,eE,rvs_app,rvs_one]
     have e:List.take (d.length * 4 + 2) (rvs o) ++ S_api_Wide.cs (wd (r.2.2 + x.f_V)) ++ List.drop (d.length * 4 + 2 + (S_api_Wide.cs (wd (r.2.2 + x.f_V))).length) (rvs o)=rvs d ++ S_api_Row.cs (toRow (r.1,r.2.1,r.2.2 + x.f_V)):=by
      rw [rv,List.take_append,List.drop_append,rvs_len,List.take_of_length_le (by rw [rvs_len]; omega),List.drop_of_length_le (by rw [rvs_len]; omega)]
      rw [show d.length * 4 + 2 - d.length * 4=2 from by omega,show d.length * 4 + 2 + (S_api_Wide.cs (wd (r.2.2 + x.f_V))).length - d.length * 4=4 from by show d.length * 4 + 2 + 2 - d.length * 4=4; omega]
      simp only [List.append_assoc,List.nil_append]
      rfl
     rw [← e]; exact w2
    ·rw [sn]; unfold eachE; rw [hr]; dsimp only; rw [if_pos he,← ed,dl]; simp
    ·rw [sn]; unfold eachE; rw [hr]; dsimp only; rw [if_pos he,← ed]
     intro q hq
     rcases List.mem_append.1 hq with hq | hq
     ·have:=bd q (by rw [sp]; exact List.mem_append.2 (.inl hq)); omega
     ·simp only [List.mem_singleton] at hq; subst hq; dsimp only; omega
   ·rw [show (r.2.1 == IntKind.i64.wrap (x.f_T / step * step))=false from by rw [beq_eq_false_iff_ne]; exact he]
    exact push fun r' h'=>by rw [hr] at h'; cases h'; exact he
  ·rw [if_neg (by simpa using hp)]
   exact push fun r' h'=>by
    have:o=[]:=List.length_eq_zero_iff.1 (by omega)
    rw [this] at h'; cases h'
 ·rw [if_neg (by simpa using hi)]
  rw [take_all (by omega)] at R rl
  exact H t5 h1 R rl X
end Go.Q.Yq
end

/- A part of the proof of statements of this seat: lemmas, no statement of their own. -/
import Derived.Test.YtgbbpanapnkdbaaGreatYqZba
import Derived.Test.YtgbbpanapnkdbaaGreatYqZaz
set_option linter.unusedVariables false
set_option linter.unusedSimpArgs false
set_option maxRecDepth 100000
section
/- The document's series and merged pieces, walked. -/
namespace Go.Q.Yq
open Go.Q.Rw
def lab (x:QU):LU:=(x.1,x.2.2)
theorem MG (x:LU):∀ v∈lcs x,v.oneCell'=true:=fun v hv=>by
 simp [lcs,aD.cs,lst] at hv; rcases hv with rfl | rfl <;> rfl
theorem Jz:∀ qs:List QU,(qs.any fun x=>x.2.1 != 0) = !(qs.all fun x=>decide (x.2.1=0))
 | []=>rfl
 | x :: r=>by
  simp only [List.any_cons,List.all_cons,Bool.not_and,Jz r]
  by_cases e:x.2.1=0 <;> simp [e]
theorem J3 {l:Tx} {k:KP (ay × Bool)} {h:Heap} (hl:l.length<=100000000)
  (H0:∀ h',p8 l=none->Ext h.size h h'->k (Dy,false) h')
  (H1:∀ name ls s h',p8 l=some (name,ls)->Row h.size h' 178 2 s (ls.flatMap lcs)->s.len=ls.length->Ext h.size h h'->k (⟨ofL name,s⟩,true) h'):uA (ofL l) k h:=by
 unfold uA
 refine bx0 fun h2 B1 X1=>?_
 have z1:=X1.size
 have l1:=B1.lt
 have body:∀ (okS:Bool) (name:Tx) (qs:List QU) (s:Slc) (h4:Heap),Row h2.size h4 174 3 s (qs.flatMap qcs)->s.len=qs.length->qs.length<=8->Ext h2.size h2 h4->(p8 l=if (okS && (qs.all fun x=>decide (x.2.1=0)) && yo name (qs.map lab))=true then some (name,qs.map lab) else none) ->
   ∃ (b5:Nat) (h6:Heap),b5=h4.size/\h6=h4.push (.cells (af.cs (⟨ByteArray.empty,(⟨none,0,0⟩:Slc)⟩:af)).toArray 139)/\(∃ h7:Heap,aN h6 (⟨b5,0,none⟩:Addr) 2/\h7=aM h6 (⟨b5,0,none⟩:Addr) 0 (af.cs ⟨ofL name,s⟩)/\(∃ v8:ByteArray,ah h7 (⟨b5,0,none⟩:Addr)=some (.string v8)/\(∃ (b9:Nat) (h10:Heap),b9=h7.size/\h10=h7.push (.cells (ay.cs (⟨ByteArray.empty,(⟨none,0,0⟩:Slc)⟩:ay)).toArray 147)/\(∃ h11:Heap,aN h10 (⟨b9,0,none⟩:Addr) 2/\h11=aM h10 (⟨b9,0,none⟩:Addr) 0 (ay.cs (⟨v8,(⟨none,0,0⟩:Slc)⟩:ay))/\(wh (⟨h.size,0,none⟩:Addr) (⟨b5,0,none⟩:Addr) (⟨b9,0,none⟩:Addr) okS 0 k h11))))):=fun okS name qs s h4 Rq ql q8 X4 ep=>by
  have z4:=X4.size
  have C1:=B1.ext X4 l1
  refine bx rfl (Nat.le_refl _) fun h7 B5 X7=>⟨ofL name,B5.cl0 rfl,bx rfl (Nat.le_refl _) fun h11 B9 X11=>?_⟩
  have z7:=X7.size
  have z11:=X11.size
  have l5:=B5.lt
  have l9:=B9.lt
  have X411:Ext h4.size h4 h11:=X7.trans (X11.mono z7)
  unfold wh
  refine ⟨fun q h'=>∃ (i:Nat) (ls:Slc),q.2=(i:Int)/\i<=qs.length/\q.1=(okS && (qs.take i).all fun x=>decide (x.2.1=0))/\Ext h4.size h4 h'/\Blk h' h4.size (af.cs ⟨ofL name,s⟩) 139/\Blk h' h7.size (ay.cs ⟨ofL name,ls⟩) 147/\Row h11.size h' 178 2 ls (((qs.take i).map lab).flatMap lcs)/\ls.len=i/\h11.size<=h'.size,fun q _=>qs.length - q.2.toNat,
   ⟨0,⟨none,0,0⟩,rfl,by omega,by simp,X411,B5.ext X11 l5,B9,Row.nil _ _ _ _,rfl,Nat.le_refl _⟩,?_⟩
  rintro ok ii h12 ⟨i,ls,ei,il,eo,X12,D5,D9,Rl,ll,z12⟩
  dsimp only at ei eo
  subst ei; subst eo
  have zz:=X12.size
  have X012:Ext h.size h h12:=X1.trans ((X4.mono z1).trans (X12.mono (by omega)))
  have Rq12:=Rq.ext X12 fun g hg=>(Rq.bd hg).2
  have E1:=C1.ext X12 C1.lt
  unfold Aa
  refine ⟨s,D5.cl rfl,?_⟩
  rw [ql]
  by_cases hi:i < qs.length
  ·rw [if_pos (by simp; omega)]
   obtain ⟨x,hx⟩:∃ x,qs[i]? = some x:=⟨_,List.getElem?_eq_getElem hi⟩
   have Lq:LsAt az.cs 3 h12 s (qs.map qst):=Kn o7 (by decide) Rq12 ql
   obtain ⟨a,ha,hc⟩:=Lq.at' i (qst x) (by rw [List.getElem?_map,hx]; rfl)
   have tk:qs.take (i + 1)=qs.take i ++ [x]:=by
    obtain ⟨h1,h2⟩:=List.getElem?_eq_some_iff.1 hx
    rw [List.take_succ_eq_append_getElem h1,h2]
   have lt:((i:Nat):Int) < (s.len:Int):=by rw [ql]; omega
   have g2:∀ b,b=(okS && (qs.take (i + 1)).all fun x=>decide (x.2.1=0))->oO ⟨h.size,0,none⟩ ⟨h4.size,0,none⟩ ⟨h7.size,0,none⟩ (i:Int) b k (fun q h'=>(∃ (i:Nat) (ls:Slc),q.2=(i:Int)/\i<=qs.length/\q.1=(okS && (qs.take i).all fun x=>decide (x.2.1=0))/\Ext h4.size h4 h'/\Blk h' h4.size (af.cs ⟨ofL name,s⟩) 139/\Blk h' h7.size (ay.cs ⟨ofL name,ls⟩) 147/\Row h11.size h' 178 2 ls (((qs.take i).map lab).flatMap lcs)/\ls.len=i/\h11.size<=h'.size)/\qs.length - q.2.toNat < qs.length - ((i:Nat):Int).toNat) h12:=fun b hb=>by
    unfold oO
    refine ⟨ls,D9.cl rfl,s,D5.cl rfl,a,ha,by omega,lt,ofL x.1,by rw [Int.toNat_natCast]; exact zx hc rfl,s,D5.cl rfl,a,ha,by omega,lt,ofL x.2.2,by rw [Int.toNat_natCast]; exact hc 2 _ rfl,bx0 fun h21 B20 X21=>⟨(D9.ext X21 D9.lt).cl rfl,?_⟩⟩
    have z21:=X21.size
    refine app1 (Rl.ext X21 fun g hg=>(Rl.bd hg).2) (by omega) rfl rfl (MG (lab x)) (by omega) (by unfold maxLen; omega) fun s23 h24 R24 l24 X24=>?_
    have z24:=X24.size
    have K9:Blk h24 h7.size (ay.cs ⟨ofL name,ls⟩) 147:=(D9.ext X21 D9.lt).ext X24 (by omega)
    refine jI K9 (by show 1 < 2; decide) fun h25 F9 U=>?_
    have z25:=U.size
    refine ⟨_,rfl,⟨i + 1,s23,by dsimp only; rw [aA (by omega) (by omega)]; omega,by omega,hb,X12.trans ((X21.mono zz).trans ((X24.mono (by omega)).trans (U.ext (by omega) (by omega)))),U.blk ((D5.ext X21 D5.lt).ext X24 (by omega)) (by omega),F9,?_,by rw [l24,ll],by omega⟩,by dsimp only; rw [aA (by omega) (by omega)]; omega⟩
    rw [tk,List.map_append,List.flatMap_append]
    have this:Row h11.size h25 178 2 s23 (((qs.take i).map lab).flatMap lcs ++ lcs (lab x)):=R24.keep (h':=h25) fun g hg=>U.block g (R24.bd hg).2 (by have:=(R24.bd hg).1; omega)
    simpa using this
   cases ho:(okS && (qs.take i).all fun x=>decide (x.2.1=0)) with
   | true =>
    rw [if_pos rfl]
    refine ⟨s,D5.cl rfl,a,ha,by omega,lt,x.2.1,by rw [Int.toNat_natCast]; exact hc 1 _ rfl,g2 _ ?_⟩
    rw [tk,List.all_append,← Bool.and_assoc,ho]
    simp
    by_cases e:x.2.1=0 <;> simp [e]
   | false =>
    rw [if_neg (by simp)]
    refine g2 _ ?_
    rw [tk,List.all_append,← Bool.and_assoc,ho]; rfl
  ·rw [if_neg (by simp; omega)]
   rw [List.take_of_length_le (by omega)] at Rl ⊢
   have g3t:p8 l=none->∀ h',Ext h12.size h12 h'->mX ⟨h.size,0,none⟩ ⟨h7.size,0,none⟩ true k (fun q h'=>(∃ (i:Nat) (ls:Slc),q.2=(i:Int)/\i<=qs.length/\q.1=(okS && (qs.take i).all fun x=>decide (x.2.1=0))/\Ext h4.size h4 h'/\Blk h' h4.size (af.cs ⟨ofL name,s⟩) 139/\Blk h' h7.size (ay.cs ⟨ofL name,ls⟩) 147/\Row h11.size h' 178 2 ls (((qs.take i).map lab).flatMap lcs)/\ls.len=i/\h11.size<=h'.size)/\qs.length - q.2.toNat < qs.length - ((i:Nat):Int).toNat) h':=fun e h' X'=>by
    unfold mX
    rw [if_pos rfl]
    refine pY (E1.ext X' E1.lt) rfl (Nat.le_refl _) fun h'' F U=>⟨_,ai.aL F,H0 h'' e (X012.trans ((X'.mono X012.size).trans (U.ext (Nat.le_refl _) (by have:=X'.size; have:=X012.size; omega))))⟩
   cases ho:(okS && qs.all fun x=>decide (x.2.1=0)) with
   | false =>
    rw [if_pos (by simp)]
    rw [ho] at ep
    exact g3t ep h12 (Ext.refl _ _)
   | true =>
    rw [if_neg (by simp)]
    rw [ho,Bool.true_and] at ep
    have Ll:LsAt aD.cs 2 h12 ls ((qs.map lab).map lst):=by
     refine Kn vH (by decide) (f:=lst) (B:=h11.size) (E:=178) (xs:=qs.map lab) ?_ (by rw [ll]; simp; omega)
     exact Rl
    refine ⟨⟨ofL name,ls⟩,ai.aL D9,Ka Ll fun h13 X13=>?_⟩
    have z13:=X13.size
    cases hc:yo name (qs.map lab) with
    | false =>
     rw [hc] at ep
     exact g3t ep h13 X13
    | true =>
     rw [hc,if_pos rfl] at ep
     unfold mX
     rw [if_neg (by simp)]
     refine ⟨⟨ofL name,ls⟩,(ai.aL D9).ext X13,pY (E1.ext X13 E1.lt) rfl (Nat.le_refl _) fun h'' F U=>⟨_,ai.aL F,?_⟩⟩
     have X013:Ext h.size h h13:=X012.trans (X13.mono X012.size)
     have:=X013.size
     refine H1 name (qs.map lab) ls h'' ep ?_ (by rw [ll]; simp; omega) (X013.trans (U.ext (Nat.le_refl _) (by omega)))
     have R13:=Rl.ext X13 fun g hg=>(Rl.bd hg).2
     exact (R13.keep fun g hg=>U.block g (R13.bd hg).2 (by have:=(R13.bd hg).1; omega)).mono (by omega)
 refine zi hl (fun h4 e X4=>?_) (fun name qs s h4 e R rl X4=>?_)
 ·have:=body false [] [] ⟨none,0,0⟩ h4 (Row.nil _ _ _ _) rfl (by simp) X4 (by unfold p8; rw [e]; rfl)
  exact this
 ·have q8:=(Dg e).2.2
  refine body true name qs s h4 R rl q8 X4 ?_
  unfold p8
  rw [e]
  dsimp only
  rw [Jz qs]
  have em:(qs.map fun x=>(x.1,x.2.2))=qs.map lab:=rfl
  rw [em]
  cases (qs.all fun x=>decide (x.2.1=0)) <;> cases yo name (qs.map lab) <;> rfl
/-! merged pieces -/
def iO (a p:Pc):Bool:=Op.bytesLess a.ak.toList p.ak.toList || ((a.ak.toList == p.ak.toList) && decide (a.f_T < p.f_T))
def MI (out:List Pc) (p:Pc):List Pc :=
 let n:=(out.takeWhile fun a=>iO a p).length
 match out[n]? with
 | some q=>if plc q=plc p then (if rG p q > 0 then out.set n p else out) else out.take n ++ p :: out.drop n
 | none=>out.take n ++ p :: out.drop n
def fT (l:List Pc):List Pc:=l.foldl (fun out p=>if okP p=true then MI out p else out) []
theorem Eh (a p:Pc):iO a p=true ↔ ltP a p:=by
 unfold iO ltP
 rw [EY,Go.Proofs.bytesLess_eq]
 simp only [Bool.or_eq_true,Bool.and_eq_true,decide_eq_true_eq,beq_iff_eq]
 constructor
 ·rintro (h | ⟨h1,h2⟩)
  ·left; rw [if_pos h]; decide
  ·exact .inr ⟨ES h1,h2⟩
 ·rintro (h | ⟨h1,h2⟩)
  ·left
   split at h
   ·assumption
   ·split at h <;> omega
  ·exact .inr ⟨by rw [h1],h2⟩
theorem LV {a b c:Pc} (h1:ltP a b) (h2:ltP b c):ltP a c:=by
 have t:=yD.tr a.ak b.ak c.ak
 have t2:=yD.tr c.ak a.ak b.ak
 have t3:=yD.tr b.ak c.ak a.ak
 have n1:=yD.anti a.ak b.ak
 have n2:=yD.anti b.ak c.ak
 have n3:=yD.anti a.ak c.ak
 rcases h1 with h1 | ⟨e1,h1⟩ <;> rcases h2 with h2 | ⟨e2,h2⟩
 ·left; omega
 ·left; rw [← e2]; exact h1
 ·left; rw [e1]; exact h2
 ·exact .inr ⟨e1.trans e2,by omega⟩
theorem NI (a b:Pc):ltP a b∨plc a=plc b∨ltP b a:=by
 have n:=yD.anti a.ak b.ak
 by_cases e:cS a.ak b.ak=0
 ·have es:=Jy e
  rcases Int.lt_trichotomy a.f_T b.f_T with h | h | h
  ·exact .inl (.inr ⟨es,h⟩)
  ·exact .inr (.inl (by unfold plc; rw [es,h]))
  ·exact .inr (.inr (.inr ⟨es.symm,h⟩))
 ·by_cases h:cS a.ak b.ak < 0
  ·exact .inl (.inl h)
  ·exact .inr (.inr (.inl (by omega)))
theorem KY {a b c:Pc} (e:plc a=plc b):(ltP a c ↔ ltP b c)/\(ltP c a ↔ ltP c b):=by
 unfold plc at e
 injection e with e1 e2
 unfold ltP
 rw [e1,e2]
 exact ⟨Iff.rfl,Iff.rfl⟩
theorem Ey {a b:Pc} (h:ltP a b):plc a≠plc b:=fun e=>ED b ((KY e).1.1 h)
/-- of the pieces so far -/
theorem nK.step {pre out:List Pc} (I:nK pre out) (p:Pc):nK (pre ++ [p]) (if okP p=true then MI out p else out):=by
 have mem2:∀ {y},y∈pre ++ [p] ↔ y∈pre∨y=p:=fun {y}=>by simp
 by_cases ok:okP p=true
 rotate_left
 ·rw [if_neg ok]
  refine ⟨I.srt,fun z=>?_⟩
  rw [I.mem]
  constructor
  ·rintro ⟨a,b,c⟩
   exact ⟨mem2.2 (.inl a),b,fun y hy o e=>(mem2.1 hy).elim (fun h=>c y h o e) fun h=>absurd (h ▸ o) ok⟩
  ·rintro ⟨a,b,c⟩
   exact ⟨(mem2.1 a).elim id fun h=>absurd (h ▸ b) ok,b,fun y hy=>c y (mem2.2 (.inl hy))⟩
 rw [if_pos ok]
 -- where it stands
 obtain ⟨n,en⟩:∃ n,n=(out.takeWhile fun a=>iO a p).length:=⟨_,rfl⟩
 have sp:out.takeWhile (fun a=>iO a p)=out.take n/\out.dropWhile (fun a=>iO a p)=out.drop n:=by
  have e:=List.takeWhile_append_dropWhile (p:=fun a=>iO a p) (l:=out)
  constructor
  ·conv=>rhs; rw [← e,en,List.take_left]
  ·conv=>rhs; rw [← e,en,List.drop_left]
 have lo:∀ a∈out.take n,ltP a p:=fun a ha=>by
  rw [← sp.1] at ha
  exact (Eh a p).1 (List.all_eq_true.1 List.all_takeWhile a ha)
 have hd:∀ q,out[n]? = some q->¬ ltP q p:=fun q hq hlt=>by
  have:out.drop n=q :: out.drop (n + 1):=by
   obtain ⟨h1,h2⟩:=List.getElem?_eq_some_iff.1 hq
   rw [List.drop_eq_getElem_cons h1,h2]
  rw [← sp.2] at this
  have key:∀ {l:List Pc} {q r},l.dropWhile (fun a=>iO a p)=q :: r->iO q p=false:=fun {l}=>by
   induction l with
   | nil=>intro q r h; cases h
   | cons x l ih =>
    intro q r h
    rw [List.dropWhile_cons] at h
    split at h
    ·exact ih h
    ·rename_i hx; cases h; simpa using hx
  have:=key this
  rw [(Eh q p).2 hlt] at this; cases this
 have splitO:=List.take_append_drop n out
 have srt:=I.srt
 rw [← splitO] at srt
 have sA:=List.pairwise_append.1 srt
 unfold MI
 dsimp only
 rw [← en]
 -- pieces at its place
 have insert:(∀ y∈out,plc y≠plc p)->(∀ q,out[n]? = some q->ltP p q)->nK (pre ++ [p]) (out.take n ++ p :: out.drop n):=fun np gt=>by
  have hi:∀ b∈out.drop n,ltP p b:=fun b hb=>by
   cases hdr:out.drop n with
   | nil=>rw [hdr] at hb; cases hb
   | cons q r =>
    have hq:out[n]? = some q:=by
     have:=congrArg (·[0]?) hdr
     simpa [List.getElem?_drop] using this
    have g:=gt q hq
    rw [hdr] at hb sA
    rcases List.mem_cons.1 hb with rfl | hb
    ·exact g
    ·exact LV g ((List.pairwise_cons.1 sA.2.1).1 b hb)
  refine ⟨?_,fun z=>?_⟩
  ·rw [List.pairwise_append]
   refine ⟨sA.1,List.pairwise_cons.2 ⟨hi,sA.2.1⟩,fun a ha b hb=>?_⟩
   rcases List.mem_cons.1 hb with rfl | hb
   ·exact lo a ha
   ·exact sA.2.2 a ha b hb
  ·have mo:z∈out.take n ++ p :: out.drop n ↔ z∈out∨z=p:=by
    rw [List.mem_append,List.mem_cons]
    conv=>rhs; rw [← splitO,List.mem_append]
    constructor
    ·rintro (h | h | h)
     ·exact .inl (.inl h)
     ·exact .inr h
     ·exact .inl (.inr h)
    ·rintro ((h | h) | h)
     ·exact .inl h
     ·exact .inr (.inr h)
     ·exact .inr (.inl h)
   rw [mo]
   have nop:∀ y∈pre,okP y=true->plc y≠plc p:=fun y hy oy e=>by
    -- then something of that place was there
    have ex:∀ (l:List Pc),(∃ y∈l,okP y=true/\plc y=plc p)->∃ z∈l,okP z=true/\plc z=plc p/\∀ y∈l,okP y=true->plc y=plc p->rG y z<=0:=fun l=>by
     induction l with
     | nil=>rintro ⟨y,hy,_⟩; cases hy
     | cons x l ih =>
      intro _
      by_cases hx:okP x=true/\plc x=plc p
      ·by_cases hr:∃ y∈l,okP y=true/\plc y=plc p
       ·obtain ⟨z,z1,z2,z3,z4⟩:=ih hr
        by_cases hxz:rG x z<=0
        ·exact ⟨z,List.mem_cons_of_mem _ z1,z2,z3,fun y hy o e=>by
          rcases List.mem_cons.1 hy with rfl | hy
          ·exact hxz
          ·exact z4 y hy o e⟩
        ·refine ⟨x,List.mem_cons_self,hx.1,hx.2,fun y hy o e=>?_⟩
         rcases List.mem_cons.1 hy with rfl | hy
         ·rw [yQ]; exact Int.le_refl _
         ·have:=vQ.anti x z
          exact vQ.tr y z x (z4 y hy o e) (by omega)
       ·refine ⟨x,List.mem_cons_self,hx.1,hx.2,fun y hy o e=>?_⟩
        rcases List.mem_cons.1 hy with rfl | hy
        ·rw [yQ]; exact Int.le_refl _
        ·exact absurd ⟨y,hy,o,e⟩ hr
      ·rename_i hh
       obtain ⟨y,hy,o,e⟩:=hh
       have hy2:y∈l:=(List.mem_cons.1 hy).resolve_left fun h=>hx (h ▸ ⟨o,e⟩)
       obtain ⟨z,z1,z2,z3,z4⟩:=ih ⟨y,hy2,o,e⟩
       exact ⟨z,List.mem_cons_of_mem _ z1,z2,z3,fun y hy o e=>by
        rcases List.mem_cons.1 hy with rfl | hy
        ·exact absurd ⟨o,e⟩ hx
        ·exact z4 y hy o e⟩
    obtain ⟨z,z1,z2,z3,z4⟩:=ex pre ⟨y,hy,oy,e⟩
    exact np z ((I.mem z).2 ⟨z1,z2,fun y hy o e=>z4 y hy o (e.trans z3)⟩) z3
   constructor
   ·rintro (h | rfl)
    ·obtain ⟨a,b,c⟩:=(I.mem z).1 h
     exact ⟨mem2.2 (.inl a),b,fun y hy o e=>(mem2.1 hy).elim (fun h=>c y h o e) fun h2=>absurd (h2 ▸ e.symm) (np z h)⟩
    ·exact ⟨mem2.2 (.inr rfl),ok,fun y hy o e=>(mem2.1 hy).elim (fun h=>absurd e (nop y h o)) fun h2=>by rw [h2,yQ]; exact Int.le_refl _⟩
   ·rintro ⟨a,b,c⟩
    rcases mem2.1 a with a | rfl
    ·exact .inl ((I.mem z).2 ⟨a,b,fun y hy=>c y (mem2.2 (.inl hy))⟩)
    ·exact .inr rfl
 have fromTri:∀ q,out[n]? = some q->plc q≠plc p->ltP p q:=fun q hq hne=>(NI p q).resolve_right fun h=>h.elim (fun e=>hne e.symm) (hd q hq)
 have others:(∀ q,out[n]? = some q->plc q≠plc p)->∀ y∈out,plc y≠plc p:=fun hne y hy e=>by
  rw [← splitO,List.mem_append] at hy
  rcases hy with hy | hy
  ·exact Ey (lo y hy) e
  ·cases hdr:out.drop n with
   | nil=>rw [hdr] at hy; cases hy
   | cons q r =>
    have hq:out[n]? = some q:=by
     have:=congrArg (·[0]?) hdr
     simpa [List.getElem?_drop] using this
    have g:=fromTri q hq (hne q hq)
    rw [hdr] at hy sA
    rcases List.mem_cons.1 hy with rfl | hy
    ·exact hne y hq e
    ·exact Ey (LV g ((List.pairwise_cons.1 sA.2.1).1 y hy)) e.symm
 cases hq:out[n]? with
 | none =>
  dsimp only
  exact insert (others fun q h=>by rw [hq] at h; cases h) fun q h=>by rw [hq] at h; cases h
 | some q =>
  dsimp only
  by_cases hp:plc q=plc p
  rotate_left
  ·rw [if_neg hp]
   exact insert (others fun q' h=>by rw [hq] at h; cases h; exact hp) fun q' h=>by rw [hq] at h; cases h; exact fromTri q hq hp
  rw [if_pos hp]
  obtain ⟨nl',eq'⟩:=List.getElem?_eq_some_iff.1 hq
  have dn:out.drop n=q :: out.drop (n + 1):=by rw [List.drop_eq_getElem_cons nl',eq']
  have qo:q∈out:=List.mem_of_getElem? hq
  obtain ⟨q1,q2,q3⟩:=(I.mem q).1 qo
  have hiq:∀ b∈out.drop (n + 1),ltP q b:=fun b hb=>by
   rw [dn] at sA
   exact (List.pairwise_cons.1 sA.2.1).1 b hb
  by_cases ho:rG p q > 0
  ·rw [if_pos ho]
   have es:out.set n p=out.take n ++ p :: out.drop (n + 1):=by rw [List.set_eq_take_append_cons_drop,if_pos nl']
   rw [es]
   rw [dn] at sA
   refine ⟨?_,fun z=>?_⟩
   ·rw [List.pairwise_append]
    refine ⟨sA.1,List.pairwise_cons.2 ⟨fun b hb=>(KY hp).1.1 (hiq b hb),(List.pairwise_cons.1 sA.2.1).2⟩,fun a ha b hb=>?_⟩
    rcases List.mem_cons.1 hb with rfl | hb
    ·exact lo a ha
    ·exact sA.2.2 a ha b (List.mem_cons_of_mem _ hb)
   ·have mo:z∈out.take n ++ p :: out.drop (n + 1) ↔ (z∈out/\plc z≠plc p)∨z=p:=by
     rw [List.mem_append,List.mem_cons]
     have so:z∈out ↔ z∈out.take n∨z=q∨z∈out.drop (n + 1):=by
      conv=>lhs; rw [← splitO,dn,List.mem_append,List.mem_cons]
     constructor
     ·rintro (h | h | h)
      ·exact .inl ⟨so.2 (.inl h),Ey (lo z h)⟩
      ·exact .inr h
      ·exact .inl ⟨so.2 (.inr (.inr h)),fun e=>Ey (hiq z h) (hp.trans e.symm)⟩
     ·rintro (⟨h,hn⟩ | h)
      ·rcases so.1 h with h | h | h
       ·exact .inl h
       ·exact absurd (h ▸ hp) hn
       ·exact .inr (.inr h)
      ·exact .inr (.inl h)
    rw [mo]
    constructor
    ·rintro (⟨h,hn⟩ | rfl)
     ·obtain ⟨a,b,c⟩:=(I.mem z).1 h
      exact ⟨mem2.2 (.inl a),b,fun y hy o e=>(mem2.1 hy).elim (fun h=>c y h o e) fun h2=>absurd (h2 ▸ e.symm) hn⟩
     ·refine ⟨mem2.2 (.inr rfl),ok,fun y hy o e=>(mem2.1 hy).elim (fun h=>?_) fun h2=>by rw [h2,yQ]; exact Int.le_refl _⟩
      have:=q3 y h o (e.trans hp.symm)
      have an:=vQ.anti z q
      exact vQ.tr y q z this (by omega)
    ·rintro ⟨a,b,c⟩
     rcases mem2.1 a with a | rfl
     ·by_cases e:plc z=plc p
      ·exfalso
       have h1:=c p (mem2.2 (.inr rfl)) ok e.symm
       have h2:=q3 z a b (e.trans hp.symm)
       have h3:=vQ.tr p z q h1 h2
       omega
      ·exact .inl ⟨(I.mem z).2 ⟨a,b,fun y hy=>c y (mem2.2 (.inl hy))⟩,e⟩
     ·exact .inr rfl
  ·rw [if_neg ho]
   refine ⟨I.srt,fun z=>?_⟩
   rw [I.mem]
   constructor
   ·rintro ⟨a,b,c⟩
    refine ⟨mem2.2 (.inl a),b,fun y hy o e=>(mem2.1 hy).elim (fun h=>c y h o e) fun h2=>?_⟩
    subst h2
    have:=c q q1 q2 (hp.trans e)
    exact vQ.tr y q z (by omega) this
   ·rintro ⟨a,b,c⟩
    rcases mem2.1 a with a | rfl
    ·exact ⟨a,b,fun y hy=>c y (mem2.2 (.inl hy))⟩
    ·-- it is the one that is there
     have h1:=c q (mem2.2 (.inl q1)) q2 hp
     have an:=vQ.anti z q
     have o0:rG q z=0:=by omega
     have ez:q=z:=by
      unfold rG at o0
      rw [jT,jT] at o0
      have ci0:∀ {a b:Int},cI a b=0->a=b:=fun {a b} h=>by
       unfold cI at h
       split at h
       ·omega
       ·split at h <;> omega
      unfold or1 at o0
      by_cases i0:vk q.dB z.dB=0
      ·rw [if_neg (by omega)] at o0
       by_cases v0:cI q.f_V z.f_V=0
       ·unfold vk at i0
        rw [jT,jT] at i0
        unfold or1 at i0
        by_cases n0:cI q.dB.f_N z.dB.f_N=0
        ·rw [if_neg (by omega)] at i0
         by_cases d0:cI q.dB.aR z.dB.aR=0
         ·have p1:=ci0 v0
          have p2:=ci0 n0
          have p3:=ci0 d0
          unfold plc at hp
          injection hp with a1 a2
          obtain ⟨zs,zt,zv,zn,zd⟩:=z
          obtain ⟨vs,vt,vv,vn,vd⟩:=q
          simp only at a1 a2 p1 p2 p3
          subst a1; subst a2; subst p1; subst p2; subst p3; rfl
         ·rw [if_pos d0] at i0; exact absurd i0 d0
        ·rw [if_pos n0] at i0; exact absurd i0 n0
       ·rw [if_pos v0] at o0; exact absurd o0 v0
      ·rw [if_pos i0] at o0; exact absurd o0 i0
     subst ez
     exact ⟨q1,b,fun y hy=>c y (mem2.2 (.inl hy))⟩
theorem u7 (l:List Pc):nK l (fT l):=by
 have key:∀ (n:Nat),nK (l.take n) (fT (l.take n)):=fun n=>by
  induction n with
  | zero=>exact ⟨by simp [fT],fun z=>by simp [fT]⟩
  | succ n ih =>
   rcases Nat.lt_or_ge n l.length with hn | hn
   ·rw [List.take_succ_eq_append_getElem hn]
    unfold fT at ih ⊢
    rw [List.foldl_append]
    exact ih.step _
   ·rw [List.take_of_length_le hn] at ih
    rw [List.take_of_length_le (by omega)]; exact ih
 have:=key l.length
 rwa [List.take_length] at this
end Go.Q.Yq
end
section
/- The document's merged pieces, walked. -/
namespace Go.Q.Yq
open Go.Q.Rw
theorem KC {x y:aG} {k:KP Bool} {h:Heap} (H:∀ h',Ext h.size h h'->k (decide (vk x y > 0)) h'):xA x y k h:=by
 unfold xA pg ru pg
 refine bx0 fun h2 B1 X1=>bx0 fun h4 B3 X3=>?_
 have C1:=B1.ext X3 B1.lt
 have F:=H h4 (X1.trans (X3.mono X1.size))
 unfold vk at F
 rw [jT,jT] at F
 unfold or1 cI at F
 refine ⟨x.f_N,C1.cl0 rfl,y.f_N,B3.cl0 rfl,?_⟩
 by_cases h1:x.f_N > y.f_N
 ·rw [if_pos (by simpa using h1)]
  rw [show decide (_ > (0:Int))=true from by simp; split <;> (try split) <;> omega] at F
  exact F
 ·rw [if_neg (by simpa using h1)]
  refine ⟨x.f_N,C1.cl0 rfl,y.f_N,B3.cl0 rfl,?_⟩
  by_cases h2:x.f_N=y.f_N
  ·rw [if_pos (by simpa using h2)]
   refine ⟨x.aR,C1.cl rfl,y.aR,B3.cl rfl,?_⟩
   have e:decide ((if (if x.f_N < y.f_N then (-1:Int) else if x.f_N > y.f_N then 1 else 0)≠0 then (if x.f_N < y.f_N then (-1:Int) else if x.f_N > y.f_N then 1 else 0) else if (if x.aR < y.aR then (-1:Int) else if x.aR > y.aR then 1 else 0)≠0 then (if x.aR < y.aR then (-1:Int) else if x.aR > y.aR then 1 else 0) else orL []) > 0)=decide (x.aR > y.aR):=by
    rw [h2]
    simp only [Int.lt_irrefl,gt_iff_lt,if_false,ne_eq,not_true_eq_false]
    rw [decide_eq_decide]
    unfold orL
    split <;> (try split) <;> omega
   rw [e] at F; exact F
  ·rw [if_neg (by simpa using h2)]
   have lt:x.f_N < y.f_N:=by omega
   simp only [if_pos lt] at F
   exact F
theorem En {a b:Int}:cI a b=0 ↔ a=b:=by unfold cI; split <;> (try split) <;> omega
theorem Ii {x y:aG}:vk x y=0 ↔ x.f_N=y.f_N/\x.aR=y.aR:=by
 unfold vk
 rw [jT,jT]
 unfold or1
 by_cases h1:cI x.f_N y.f_N=0
 ·rw [if_neg (by omega)]
  by_cases h2:cI x.aR y.aR=0
  ·rw [if_neg (by omega)]
   exact ⟨fun _=>⟨En.1 h1,En.1 h2⟩,fun _=>rfl⟩
  ·rw [if_pos h2]
   exact ⟨fun h=>absurd h h2,fun h=>absurd (En.2 h.2) h2⟩
 ·rw [if_pos h1]
  exact ⟨fun h=>absurd h h1,fun h=>absurd (En.2 h.1) h1⟩
theorem Gv {p q:Pc}:rG p q > 0 ↔ vk p.dB q.dB > 0∨(vk p.dB q.dB=0/\p.f_V > q.f_V):=by
 unfold rG
 rw [jT,jT]
 unfold or1
 by_cases h:vk p.dB q.dB=0
 ·rw [if_neg (by omega)]
  unfold cI orL
  split <;> (try split) <;> (try split) <;> omega
 ·rw [if_pos h]; omega
theorem Iw {p:Pc} {k:KP Bool} {h:Heap} (H:∀ h',Ext h.size h h'->k (okP p) h'):ym p k h:=by
 unfold ym qQ
 refine bx0 fun h2 B1 X1=>⟨p.ak,B1.cl0 rfl,?_⟩
 have F:=H h2 X1
 unfold okP at F
 by_cases h1:1<=p.ak.size
 ·rw [if_pos (by simp; omega)]
  refine ⟨p.ak,B1.cl0 rfl,?_⟩
  rw [show decide (1<=p.ak.size)=true from by simpa using h1,Bool.true_and] at F
  rw [show decide ((p.ak.size:Int)<=200)=decide (p.ak.size<=200) from by rw [decide_eq_decide]; omega]
  exact F
 ·rw [if_neg (by simp; omega)]
  rw [show decide (1<=p.ak.size)=false from by rw [decide_eq_false_iff_not]; exact h1,Bool.false_and] at F
  exact F
theorem LD {a b:ByteArray}:(a.toList == b.toList)=decide (a=b):=by
 rw [Bool.eq_iff_iff]
 simp only [beq_iff_eq,decide_eq_true_eq]
 exact ⟨ES,fun h=>by rw [h]⟩
theorem Hq (xs:List Pc):∀ v∈xs.flatMap ae.cs,v.oneCell'=true:=fun v hv=>by obtain ⟨x,_,hx⟩:=List.mem_flatMap.1 hv; exact Dc x v hx
theorem Gg {p0:Slc} {l:List Pc} {k:KP Slc} {h:Heap} (L:Pcs h p0 l) (m:l.length<=1000)
  (H:∀ s h',Row h.size h' 89 5 s ((fT l).flatMap ae.cs)->s.len=(fT l).length->Ext h.size h h'->k s h'):tT p0 k h:=by
 unfold tT A7
 refine ⟨fun q h'=>∃ i:Nat,q.2=(i:Int)/\i<=l.length/\Ext h.size h h'/\Row h.size h' 89 5 q.1 ((fT (l.take i)).flatMap ae.cs)/\q.1.len=(fT (l.take i)).length,fun q _=>l.length - q.2.toNat,⟨0,rfl,by omega,Ext.refl _ _,by simpa [fT] using Row.nil _ _ _ _,by simp [fT]⟩,?_⟩
 rintro t3 ii h1 ⟨i,ei,il,X1,R,rl⟩
 dsimp only at ei R rl
 subst ei
 have z1:=X1.size
 unfold Ac
 rw [L.l]
 by_cases hi:i < l.length
 rotate_left
 ·rw [if_neg (by simp; omega)]
  rw [List.take_of_length_le (by omega)] at R rl
  exact H t3 h1 R rl X1
 rw [if_pos (by simp; omega)]
 obtain ⟨a,p,ha,g0,g1,hp,hc⟩:=(L.ext X1).it (i:=(i:Int)) (by omega) (by omega)
 rw [L.l] at g1
 rw [Int.toNat_natCast] at hp
 have tk:fT (l.take (i + 1))=if okP p=true then MI (fT (l.take i)) p else fT (l.take i):=by
  obtain ⟨h1,h2⟩:=List.getElem?_eq_some_iff.1 hp
  rw [List.take_succ_eq_append_getElem h1,h2]; unfold fT; rw [List.foldl_append]; rfl
 have ol:(fT (l.take i)).length<=1000:=by have:=(u7 (l.take i)).len; rw [List.length_take] at this; omega
 have ol1:(fT (l.take (i + 1))).length<=1000:=by have:=(u7 (l.take (i + 1))).len; rw [List.length_take] at this; omega
 obtain ⟨out,eo⟩:∃ out,out=fT (l.take i):=⟨_,rfl⟩
 rw [← eo] at R rl tk ol
 refine ⟨a,ha,g0,g1,p,hc,bx rfl (Nat.le_refl _) fun h6 B4 X6=>⟨p,ai.aL B4,Iw fun h9 X9=>?_⟩⟩
 have z6:=X6.size
 have z9:=X9.size
 have C4:=B4.ext X9 B4.lt
 have X09:Ext h.size h h9:=X1.trans ((X6.mono z1).trans (X9.mono (by omega)))
 have R9:=(R.ext X6 fun g hg=>(R.bd hg).2).ext X9 fun g hg=>by have:=(R.bd hg).2; omega
 have j2:∀ s h',Ext h.size h h'->Row h.size h' 89 5 s ((fT (l.take (i + 1))).flatMap ae.cs)->s.len=(fT (l.take (i + 1))).length->mZ p0 (i:Int) s k (fun q h'=>(∃ i:Nat,q.2=(i:Int)/\i<=l.length/\Ext h.size h h'/\Row h.size h' 89 5 q.1 ((fT (l.take i)).flatMap ae.cs)/\q.1.len=(fT (l.take i)).length)/\l.length - q.2.toNat < l.length - ((i:Nat):Int).toNat) h':=fun s h' X' R' l'=>by
  unfold mZ
  refine ⟨_,rfl,?_⟩
  rw [aA (by omega) (by omega)]
  exact ⟨⟨i + 1,by dsimp only; omega,by omega,X',R',l'⟩,by dsimp only; omega⟩
 by_cases ok:okP p=true
 rotate_left
 ·rw [if_pos (by simp [ok])]
  rw [if_neg ok] at tk
  exact j2 t3 h9 X09 (by rw [tk]; exact R9) (by rw [tk]; exact rl)
 rw [if_neg (by simp [ok])]
 rw [if_pos ok] at tk
 have L9:Pcs h9 t3 out:=iH Aw R9.slc rl (by decide)
 unfold AV
 refine ⟨fun t h'=>h'=h9/\∃ n:Nat,t=(n:Int)/\n<=out.length/\∀ x∈out.take n,iO x p=true,fun t _=>out.length - t.toNat,⟨rfl,0,rfl,by omega,by simp⟩,?_⟩
 rintro t6 h10 ⟨rfl,n,rfl,nl,al⟩
 -- it is found where it belongs
 have g4:(∀ q,out[n]? = some q->iO q p=false)->kM p0 t3 (i:Int) ⟨h1.size,0,none⟩ (n:Int) false k (fun q h'=>(∃ i:Nat,q.2=(i:Int)/\i<=l.length/\Ext h.size h h'/\Row h.size h' 89 5 q.1 ((fT (l.take i)).flatMap ae.cs)/\q.1.len=(fT (l.take i)).length)/\l.length - q.2.toNat < l.length - ((i:Nat):Int).toNat) (fun t h'=>(h'=h10/\∃ n:Nat,t=(n:Int)/\n<=out.length/\∀ x∈out.take n,iO x p=true)/\out.length - t.toNat < out.length - ((n:Nat):Int).toNat) h10:=fun stop=>by
  have tw:out.takeWhile (fun a=>iO a p)=out.take n:=(Lj (fun y hy=>al y hy) fun y hy=>stop y hy).1
  have en:(out.takeWhile fun a=>iO a p).length=n:=by rw [tw,List.length_take]; omega
  unfold MI at tk
  dsimp only at tk
  rw [en] at tk
  have j7:∀ s h',Ext h.size h h'->Row h.size h' 89 5 s ((fT (l.take (i + 1))).flatMap ae.cs)->s.len=(fT (l.take (i + 1))).length->oQ p0 s (i:Int) k (fun q h'=>(∃ i:Nat,q.2=(i:Int)/\i<=l.length/\Ext h.size h h'/\Row h.size h' 89 5 q.1 ((fT (l.take i)).flatMap ae.cs)/\q.1.len=(fT (l.take i)).length)/\l.length - q.2.toNat < l.length - ((i:Nat):Int).toNat) (fun t h'=>(h'=h10/\∃ n:Nat,t=(n:Int)/\n<=out.length/\∀ x∈out.take n,iO x p=true)/\out.length - t.toNat < out.length - ((n:Nat):Int).toNat) h':=fun s h' X' R' l'=>by
   unfold oQ; exact j2 s h' X' R' l'
  -- a new place
  have fresh:fT (l.take (i + 1))=out.take n ++ p :: out.drop n->nG p0 t3 (i:Int) ⟨h1.size,0,none⟩ (n:Int) false k (fun q h'=>(∃ i:Nat,q.2=(i:Int)/\i<=l.length/\Ext h.size h h'/\Row h.size h' 89 5 q.1 ((fT (l.take i)).flatMap ae.cs)/\q.1.len=(fT (l.take i)).length)/\l.length - q.2.toNat < l.length - ((i:Nat):Int).toNat) (fun t h'=>(h'=h10/\∃ n:Nat,t=(n:Int)/\n<=out.length/\∀ x∈out.take n,iO x p=true)/\out.length - t.toNat < out.length - ((n:Nat):Int).toNat) h10:=fun e=>by
   unfold nG
   rw [if_neg (by simp)]
   have cp:=R9.cap
   have s1:=L9.sub (a:=(0:Int).toNat) (b:=n) (m:=(t3.cap:Int).toNat) (by simp) (by omega) (by simp; omega)
   simp only [Int.toNat_zero,List.drop_zero] at s1
   refine ⟨_,Int.le_refl _,by omega,by omega,Int.le_refl _,rfl,_,LsAt.J7 Aw (by decide) (by rw [Int.toNat_natCast]; exact s1),?_⟩
   have lsub:(rY t3 5 (0:Int).toNat ((n:Nat):Int).toNat (t3.cap:Int).toNat).len=n:=by show ((n:Nat):Int).toNat - _=n; simp
   rw [lsub]
   refine app1 (Row.nil h10.size h10 89 5) (Nat.le_refl _) rfl (by rw [rR Aw,List.length_take,Nat.min_eq_left (by omega)]) (Hq _) (by show (0 + n) * 48<=_; omega) (by show 0 + n<=_; unfold maxLen; omega) fun s26 h27 R26 l26 X27=>?_
   have z27:=X27.size
   simp only [List.nil_append] at R26
   have l26':s26.len=n:=by rw [l26]; show 0 + n=n; omega
   refine ⟨p,(ai.aL C4).ext X27,bx0 fun h31 B30 X31=>app1 (R26.ext X31 fun g hg=>(R26.bd hg).2) (by have:=X31.size; omega) rfl rfl (Dc p) (by omega) (by unfold maxLen; omega) fun s32 h33 R32 l32 X33=>?_⟩
   have z31:=X31.size
   have z33:=X33.size
   have X1033:Ext h10.size h10 h33:=X27.trans ((X31.mono (by omega)).trans X33)
   have s2:=(L9.ext X1033).sub (a:=n) (b:=(t3.len:Int).toNat) (m:=(t3.cap:Int).toNat) (by omega) (by omega) (by omega)
   have e3:(t3.len:Int).toNat=out.length:=by omega
   have tl:=List.take_length (l:=out)
   rw [← e3] at tl
   rw [tl] at s2
   refine ⟨_,by omega,by omega,by omega,Int.le_refl _,rfl,_,LsAt.J7 Aw (by decide) (by rw [Int.toNat_natCast]; exact s2),?_⟩
   have lsub2:(rY t3 5 ((n:Nat):Int).toNat (t3.len:Int).toNat (t3.cap:Int).toNat).len=out.length - n:=by show (t3.len:Int).toNat - ((n:Nat):Int).toNat=_; omega
   rw [lsub2]
   refine app1 R32 (by omega) rfl (by rw [rR Aw,List.length_drop]) (Hq _) (by omega) (by unfold maxLen; omega) fun s35 h36 R35 l35 X36=>?_
   refine j2 s35 h36 (X09.trans ((X1033.trans X36).mono X09.size)) ?_ ?_
   ·rw [e,List.flatMap_append,List.flatMap_cons]
    rw [List.append_assoc] at R35
    exact R35.mono (by have:=X09.size; omega)
   ·rw [e,l35,l32,l26',List.length_append,List.length_cons,List.length_take,List.length_drop]; omega
  unfold kM
  rw [if_neg (by simp),rl]
  by_cases hn:n < out.length
  rotate_left
  ·rw [if_neg (by simp; omega)]
   unfold oZ
   rw [if_neg (by simp)]
   rw [List.getElem?_eq_none (by omega)] at tk
   exact fresh tk
  rw [if_pos (by simp; omega)]
  obtain ⟨q,hq⟩:∃ q,out[n]? = some q:=⟨_,List.getElem?_eq_getElem hn⟩
  obtain ⟨b,hb,hcb⟩:=L9.at' n q hq
  rw [hq] at tk
  dsimp only at tk
  have ltn:((n:Nat):Int) < (t3.len:Int):=by rw [rl]; omega
  have ltn':((n:Nat):Int) < (out.length:Int):=by omega
  have hcb':ai h10 (b.add (((n:Nat):Int).toNat * 5)) (ae.cs q):=by rw [Int.toNat_natCast]; exact hcb
  refine ⟨b,hb,by omega,ltn',q.ak,zx hcb' rfl,p.ak,C4.cl0 rfl,?_⟩
  rw [LD]
  unfold oZ
  by_cases es:q.ak=p.ak
  rotate_left
  ·rw [if_neg (by simpa using es)]
   rw [if_neg (fun e=>es (congrArg aK.qg e))] at tk
   exact fresh tk
  rw [if_pos (by simpa using es)]
  refine ⟨b,hb,by omega,ltn,q.f_T,hcb' 1 _ rfl,p.f_T,C4.cl rfl,?_⟩
  by_cases et:q.f_T=p.f_T
  rotate_left
  ·rw [show (q.f_T == p.f_T)=false from by simpa using et]
   rw [if_neg (fun e=>et (congrArg aK.f_t e))] at tk
   exact fresh tk
  rw [show (q.f_T == p.f_T)=true from by simpa using et]
  rw [if_pos (show plc q=plc p from by unfold plc; rw [es,et])] at tk
  unfold nG
  rw [if_pos rfl]
  have ci:∀ {b:Nat} {z:ae} {g:Heap},Blk g b (ae.cs z) 89->ai g ((⟨b,0,none⟩:Addr).add 3) (aG.cs z.dB):=fun R=>R.cls rfl
  have cq:∀ {g:Heap},ai g (b.add (((n:Nat):Int).toNat * 5)) (ae.cs q)->ai g ((b.add (((n:Nat):Int).toNat * 5)).add 3) (aG.cs q.dB):=fun {g} C j v hj=>by
   rw [kG]
   match j,hj with
   | 0,hj=>exact C 3 v hj
   | 1,hj=>exact C 4 v hj
   | j + 2,hj=>simp [aG.cs] at hj
  refine ⟨p.dB,ci C4,b,hb,by omega,ltn,q.dB,cq hcb',KC fun h18 X18=>?_⟩
  have z18:=X18.size
  have D4:=C4.ext X18 C4.lt
  have R18:=R9.ext X18 fun g hg=>(R9.bd hg).2
  have X018:=X09.trans (X18.mono X09.size)
  have j8:∀ v,v=decide (rG p q > 0)->nH p0 t3 (i:Int) ⟨h1.size,0,none⟩ (n:Int) v k (fun q h'=>(∃ i:Nat,q.2=(i:Int)/\i<=l.length/\Ext h.size h h'/\Row h.size h' 89 5 q.1 ((fT (l.take i)).flatMap ae.cs)/\q.1.len=(fT (l.take i)).length)/\l.length - q.2.toNat < l.length - ((i:Nat):Int).toNat) (fun t h'=>(h'=h10/\∃ n:Nat,t=(n:Int)/\n<=out.length/\∀ x∈out.take n,iO x p=true)/\out.length - t.toNat < out.length - ((n:Nat):Int).toNat) h18:=fun v hv=>by
   unfold nH
   by_cases ho:rG p q > 0
   ·rw [if_pos (by rw [hv]; simpa using ho)]
    rw [if_pos ho] at tk
    obtain ⟨w1,w2,w3⟩:=He Aw R18 rl hn p hb
    refine ⟨p,ai.aL D4,b,hb,by omega,ltn,_,by rw [Int.toNat_natCast]; exact w1,rfl,?_⟩
    refine j7 t3 _ (X018.trans (Ext.sets _ _ _ (by rw [show (b.add (((n:Nat):Int).toNat * 5)).block=b.block from by unfold Addr.add; split <;> rfl]; exact w3))) ?_ ?_
    ·rw [tk,Int.toNat_natCast]; exact w2
    ·rw [tk,List.length_set]; exact rl
   ·rw [if_neg (by rw [hv]; simpa using ho)]
    rw [if_neg ho] at tk
    exact j7 t3 h18 X018 (by rw [tk]; exact R18) (by rw [tk]; exact rl)
  by_cases hab:vk p.dB q.dB > 0
  ·rw [if_pos (by simpa using hab)]
   exact j8 true (by have:=Gv.2 (.inl hab); simpa using this)
  ·rw [if_neg (by simpa using hab)]
   refine ⟨p.dB,ci D4,b,hb,by omega,ltn,q.dB,cq (hcb'.ext X18),?_⟩
   rw [if_pos rfl]
   by_cases hz:vk p.dB q.dB=0
   ·obtain ⟨i1,i2⟩:=Ii.1 hz
    rw [if_pos (by simp [i1,i2])]
    refine ⟨p.f_V,D4.cl rfl,b,hb,by omega,ltn,q.f_V,(hcb'.ext X18) 2 _ rfl,j8 _ ?_⟩
    rw [decide_eq_decide,Gv]
    constructor
    ·intro hv; exact .inr ⟨hz,hv⟩
    ·rintro (hh | hh)
     ·exact absurd hh hab
     ·exact hh.2
   ·rw [if_neg (by
     simp only [Bool.and_eq_true,beq_iff_eq]
     exact fun hh=>hz (Ii.2 hh))]
    refine j8 false ?_
    symm
    rw [decide_eq_false_iff_not,Gv]
    rintro (hh | hh)
    ·exact hab hh
    ·exact hz hh.1
 unfold Ak
 rw [rl]
 by_cases hn:n < out.length
 rotate_left
 ·rw [if_neg (by simp; omega)]
  exact g4 fun q hq=>by rw [List.getElem?_eq_none (by omega)] at hq; cases hq
 rw [if_pos (by simp; omega)]
 obtain ⟨q,hq⟩:∃ q,out[n]? = some q:=⟨_,List.getElem?_eq_getElem hn⟩
 obtain ⟨b,hb,hcb⟩:=L9.at' n q hq
 have hcb':ai h10 (b.add (((n:Nat):Int).toNat * 5)) (ae.cs q):=by rw [Int.toNat_natCast]; exact hcb
 have ltn':((n:Nat):Int) < (out.length:Int):=by omega
 have next:∀ b,b=iO q p->kM p0 t3 (i:Int) ⟨h1.size,0,none⟩ (n:Int) b k (fun q h'=>(∃ i:Nat,q.2=(i:Int)/\i<=l.length/\Ext h.size h h'/\Row h.size h' 89 5 q.1 ((fT (l.take i)).flatMap ae.cs)/\q.1.len=(fT (l.take i)).length)/\l.length - q.2.toNat < l.length - ((i:Nat):Int).toNat) (fun t h'=>(h'=h10/\∃ n:Nat,t=(n:Int)/\n<=out.length/\∀ x∈out.take n,iO x p=true)/\out.length - t.toNat < out.length - ((n:Nat):Int).toNat) h10:=fun b hb=>by
  cases hpl:iO q p with
  | false=>rw [hb,hpl]; exact g4 fun q' h=>by rw [hq] at h; cases h; exact hpl
  | true =>
   rw [hb,hpl]
   unfold kM
   rw [if_pos rfl]
   refine ⟨_,rfl,?_⟩
   rw [aA (by omega) (by omega)]
   refine ⟨⟨rfl,n + 1,by omega,by omega,?_⟩,by omega⟩
   obtain ⟨h1,h2⟩:=List.getElem?_eq_some_iff.1 hq
   rw [List.take_succ_eq_append_getElem h1,h2]
   intro x hx
   rcases List.mem_append.1 hx with hx | hx
   ·exact al x hx
   ·simp only [List.mem_singleton] at hx; rw [hx]; exact hpl
 refine ⟨b,hb,by omega,ltn',q.ak,zx hcb' rfl,p.ak,C4.cl0 rfl,?_⟩
 unfold iO at next
 unfold oI
 by_cases h1':Op.bytesLess q.ak.toList p.ak.toList=true
 ·rw [if_pos h1']
  exact next true (by rw [h1']; rfl)
 ·rw [if_neg h1']
  have f1:Op.bytesLess q.ak.toList p.ak.toList=false:=by simpa using h1'
  refine ⟨b,hb,by omega,ltn',q.ak,zx hcb' rfl,p.ak,C4.cl0 rfl,?_⟩
  unfold qB oI
  by_cases h2':(q.ak.toList == p.ak.toList)=true
  ·rw [if_pos h2']
   refine ⟨b,hb,by omega,ltn',q.f_T,hcb' 1 _ rfl,p.f_T,C4.cl rfl,next _ ?_⟩
   rw [f1,h2']; simp
  ·rw [if_neg h2']
   have f2:(q.ak.toList == p.ak.toList)=false:=by simpa using h2'
   exact next false (by rw [f1,f2]; rfl)
end Go.Q.Yq
end
section
/- How many rows there are. -/
namespace Go.Q.Yq
open Go.Q.Rw
theorem LY {agg step:Int} {g:List Pc} {r:List RI} (hg:g≠[]) (e:gU agg step g=some r):r.length<=g.length:=by
 have gp:1<=g.length:=List.length_pos_iff.2 hg
 unfold gU at e
 split at e
 ·cases e; simp
 split at e
 ·cases e; simpa using gp
 split at e
 ·cases e; simpa using gp
 split at e
 ·cases e; simpa using gp
 split at e
 ·cases e; simpa using gp
 split at e
 ·split at e
  ·cases e; simp
  ·cases hr:AP g with
   | none=>rw [hr] at e; cases e
   | some n=>rw [hr] at e; cases e; simpa using gp
 ·cases e
  have key:∀ (g:List Pc) (o:List RI),(g.foldl (qJ step) o).length<=o.length + g.length:=fun g=>by
   induction g with
   | nil=>simp
   | cons p r ih =>
    intro o
    rw [List.foldl_cons]
    have h1:=ih (qJ step o p)
    have h2:=Bu step o p
    simp only [List.length_cons]; omega
  simpa [lQ] using key g []
theorem Hl:∀ (l:List Pc) (a:Int),l.foldl (fun m p=>if p.f_V < m then p.f_V else m) a<=a/\(∀ p∈l,l.foldl (fun m p=>if p.f_V < m then p.f_V else m) a<=p.f_V)/\(l.foldl (fun m p=>if p.f_V < m then p.f_V else m) a=a∨∃ p∈l,l.foldl (fun m p=>if p.f_V < m then p.f_V else m) a=p.f_V)
 | [],a=>⟨Int.le_refl _,by simp,.inl rfl⟩
 | x :: l,a=>by
  obtain ⟨h1,h2,h3⟩:=Hl l (if x.f_V < a then x.f_V else a)
  simp only [List.foldl_cons]
  by_cases hx:x.f_V < a
  ·simp only [if_pos hx] at h1 h2 h3 ⊢
   refine ⟨by omega,fun p hp=>?_,?_⟩
   ·rcases List.mem_cons.1 hp with rfl | hp
    ·exact h1
    ·exact h2 p hp
   ·rcases h3 with h3 | ⟨p,hp,e⟩
    ·exact .inr ⟨x,List.mem_cons_self,h3⟩
    ·exact .inr ⟨p,List.mem_cons_of_mem _ hp,e⟩
  ·simp only [if_neg hx] at h1 h2 h3 ⊢
   refine ⟨h1,fun p hp=>?_,?_⟩
   ·rcases List.mem_cons.1 hp with rfl | hp
    ·omega
    ·exact h2 p hp
   ·rcases h3 with h3 | ⟨p,hp,e⟩
    ·exact .inl h3
    ·exact .inr ⟨p,List.mem_cons_of_mem _ hp,e⟩
theorem G9:∀ (l:List Pc) (a:Int),a<=l.foldl (fun m p=>if p.f_V > m then p.f_V else m) a/\(∀ p∈l,p.f_V<=l.foldl (fun m p=>if p.f_V > m then p.f_V else m) a)/\(l.foldl (fun m p=>if p.f_V > m then p.f_V else m) a=a∨∃ p∈l,l.foldl (fun m p=>if p.f_V > m then p.f_V else m) a=p.f_V)
 | [],a=>⟨Int.le_refl _,by simp,.inl rfl⟩
 | x :: l,a=>by
  obtain ⟨h1,h2,h3⟩:=G9 l (if x.f_V > a then x.f_V else a)
  simp only [List.foldl_cons]
  by_cases hx:x.f_V > a
  ·simp only [if_pos hx] at h1 h2 h3 ⊢
   refine ⟨by omega,fun p hp=>?_,?_⟩
   ·rcases List.mem_cons.1 hp with rfl | hp
    ·exact h1
    ·exact h2 p hp
   ·rcases h3 with h3 | ⟨p,hp,e⟩
    ·exact .inr ⟨x,List.mem_cons_self,h3⟩
    ·exact .inr ⟨p,List.mem_cons_of_mem _ hp,e⟩
  ·simp only [if_neg hx] at h1 h2 h3 ⊢
   refine ⟨h1,fun p hp=>?_,?_⟩
   ·rcases List.mem_cons.1 hp with rfl | hp
    ·omega
    ·exact h2 p hp
   ·rcases h3 with h3 | ⟨p,hp,e⟩
    ·exact .inl h3
    ·exact .inr ⟨p,List.mem_cons_of_mem _ hp,e⟩
theorem J4 {g:List Pc} (ne:g≠[]):(∀ p∈g,Dj g<=p.f_V)/\∃ p∈g,p.f_V=Dj g:=by
 cases g with
 | nil=>exact absurd rfl ne
 | cons x l =>
  obtain ⟨h1,h2,h3⟩:=Hl l x.f_V
  refine ⟨fun p hp=>?_,?_⟩
  ·rcases List.mem_cons.1 hp with rfl | hp
   ·exact h1
   ·exact h2 p hp
  ·rcases h3 with h3 | ⟨p,hp,e⟩
   ·exact ⟨x,List.mem_cons_self,h3.symm⟩
   ·exact ⟨p,List.mem_cons_of_mem _ hp,e.symm⟩
theorem Kc {g:List Pc} (ne:g≠[]):(∀ p∈g,p.f_V<=CO g)/\∃ p∈g,p.f_V=CO g:=by
 cases g with
 | nil=>exact absurd rfl ne
 | cons x l =>
  obtain ⟨h1,h2,h3⟩:=G9 l x.f_V
  refine ⟨fun p hp=>?_,?_⟩
  ·rcases List.mem_cons.1 hp with rfl | hp
   ·exact h1
   ·exact h2 p hp
  ·rcases h3 with h3 | ⟨p,hp,e⟩
   ·exact ⟨x,List.mem_cons_self,h3.symm⟩
   ·exact ⟨p,List.mem_cons_of_mem _ hp,e.symm⟩
end Go.Q.Yq
end

/- A part of the proof of statements of this seat: lemmas, no statement of their own. -/
import Derived.Test.YtgbbpanapnkdbaaGreatYqZbf
import Derived.Test.YtgbbpanapnkdbaaGreatYqZad
import Derived.OpenShut
import Derived.Test.YtgbbpanapnkdbaaGreatYqZaf
import Derived.SizedLaws
set_option linter.unusedVariables false
set_option linter.unusedSimpArgs false
set_option maxRecDepth 100000
section
/- QuorumPlays: both desks are looked at. -/
namespace Go.Q.Yq
open Go.Q.Rw
theorem Ov {h0 h:Heap} {r m d c b5:Nat} {s:Slc} {E:List Ent} {L:List RE} {a:S_quaestorlaw31_Act} {t0:Slc} {t5:Int} {k:KP Bool} {nx1:KP Int}
  (S:PS h0 h r m d c s E L) (hc:c<=30) (P:Blk h b5 (S_quaestorlaw31_Act.cs a) 41)
  (K:∀ h',PS h0 h' r m d c s E L->nx1 (IntKind.i64.wrap (t5 + 1)) h'):bV t0 (some ⟨r,0,none⟩) ⟨d,0,none⟩ t5 ⟨b5,0,none⟩ true k nx1 h:=by
 have bl:=P.lt
 have sl:=S.l
 have Ll:=S.len
 unfold bV
 rw [if_neg (by simp)]
 refine MR S.D (by omega) (fun e he=>by have:=(S.p e he).ns; omega) (fun e he=>by have:=(S.p e he).ys; omega) fun nums t1 h1 hp pw Rt lt X1=>?_
 have z1:=X1.size
 refine Nw (S.grow X1).R (by omega) (fun f hf=>by have:=(S.pL hf).1; omega) (fun f hf=>by have:=(S.pL hf).2.1; omega) fun t2 h2 R2 l2 X2=>?_
 have X02:Ext h.size h h2:=X1.trans (X2.mono z1)
 have e:=PE S.mt S.D.nd S.kE S.srt hp pw
 rw [e] at Rt lt
 have bd:(L.flatMap fun f=>wants f.o).length<=1000000:=by
  have:=JI (f:=fun f:RE=>wants f.o) (c:=40) L fun f hf=>by
   unfold wants
   split
   ·simp
   ·exact Nat.le_trans (wo _ _ _) (S.pL hf).1
  have:L.length * 40<=30 * 40:=Nat.mul_le_mul_right _ (by omega)
  omega
 refine Lu (iH N7 (Rt.keep fun g hg=>X2.block g (Rt.bd hg).2).slc lt (by decide)) (iH N7 R2.slc l2 (by decide)) bd ?_
 unfold mf uo
 rw [if_neg (by simp)]
 refine ⟨fun i h'=>0<=i/\i<=(L.length:Int)/\Ext h.size h h',fun i _=>L.length - i.toNat,⟨Int.le_refl _,by omega,X02⟩,?_⟩
 rintro i h3 ⟨i0,i1,X3⟩
 have z3:=X3.size
 have S3:=S.grow X3
 unfold sj
 refine ⟨s,S3.R.cs,?_⟩
 rw [S.R.l]
 by_cases ci:i < (L.length:Int)
 ·rw [if_pos (by simpa using ci)]
  obtain ⟨a1,f,ha,g0,g1,hf,hc1⟩:=S3.R.ls.it i0 ci
  have hm:=List.mem_of_getElem? hf
  obtain ⟨e0,he0,lk,eo⟩:=S.Ho hm
  have Mf:=S3.R.m hm
  have Z:=S3.R.z f hm
  have dn:f.x.aI=f.o.x.aI:=by rw [← Mf.e]; rfl
  refine ⟨s,S3.R.cs,a1,ha,g0,g1,f.x.f_N,zx hc1 rfl,?_⟩
  refine Mo S3.D (fun hn=>by rw [lk] at hn; cases hn) fun i' e x h4 _ _ hl M4 F4 X4=>?_
  rw [lk] at hl; cases hl
  have z4:=X4.size
  refine bx (cs:=aj.cs x) rfl (by decide) fun h5 P5 X5=>?_
  have z5:=X5.size
  have X35:Ext h3.size h3 h5:=X4.trans (X5.mono z4)
  have S5:=S3.grow X35
  refine ⟨s,S5.R.cs,a1,ha,g0,g1,f.x.f_N,zx (hc1.ext X35) rfl,?_⟩
  -- what comes when the op was told, done or not
  have rest:∀ (y:aj) (er:Int) (h6:Heap),Ext h5.size h5 h6->(er=14/\f.o.x.aI=false∨er=0/\f.o.x.aI=true/\OpM h6 y f.o) ->
    ∃ (b29:Nat) (h30:Heap),b29=h6.size/\h30=h6.push (.cells (aj.cs zOp).toArray 39)/\(∃ h31:Heap,aN h30 (⟨b29,0,none⟩:Addr) 33/\h31=aM h30 (⟨b29,0,none⟩:Addr) 0 (aj.cs (y,er).1) /\
     (if (((x,(0:Int)):aj × Int).2 != 0) then (fQ t0 (some ⟨r,0,none⟩) ⟨d,0,none⟩ t5 ⟨b5,0,none⟩ i (⟨b29,0,none⟩:Addr) (y,er).2 true k nx1 (fun i' h'=>(0<=i'/\i'<=(L.length:Int)/\Ext h.size h h')/\L.length - i'.toNat < L.length - i.toNat) h31)
     else (∃ v51:aj,ai h31 (⟨h4.size,0,none⟩:Addr) (aj.cs v51)/\(∃ v52:Slc,ah h31 ⟨d,0,none⟩=some (Slc.v v52)/\(∃ a53:Addr,v52.a=some a53/\(0:Int)<=i/\i < (v52.len:Int)/\(∃ v54:aj,ai h31 (a53.add (i.toNat * 33)) (aj.cs v54)/\(sF v51 v54 (fun (r55:Bool) h56=>fQ t0 (some ⟨r,0,none⟩) ⟨d,0,none⟩ t5 ⟨b5,0,none⟩ i (⟨b29,0,none⟩:Addr) (y,er).2 (!r55) k nx1 (fun i' h'=>(0<=i'/\i'<=(L.length:Int)/\Ext h.size h h')/\L.length - i'.toNat < L.length - i.toNat) h56) h31))))))):=fun y er h6 X6 hy=>by
   have z6:=X6.size
   refine bx (cs:=aj.cs y) rfl (by decide) fun h7 P7 X7=>?_
   have z7:=X7.size
   have X57:Ext h5.size h5 h7:=X6.trans (X7.mono z6)
   have X37:Ext h3.size h3 h7:=X35.trans (X57.mono (by omega))
   have S7:=S3.grow X37
   rw [if_neg (by simp)]
   refine ⟨x,ai.aL (P5.ext X57 P5.lt),s,S7.R.cs,a1,ha,g0,g1,f.x,hc1.ext X37,?_⟩
   refine FW (o:=f.o) (by rw [← eo]; exact M4.ext (X5.trans (X57.mono z5))) (Mf.ext X37) Z fun h8 X8=>?_
   have z8:=X8.size
   have X38:Ext h3.size h3 h8:=X37.trans (X8.mono (by omega))
   have S8:=S3.grow X38
   have P8:=P7.ext X8 P7.lt
   have j6:∀ (h':Heap),Ext h3.size h3 h'->bz t0 (some ⟨r,0,none⟩) ⟨d,0,none⟩ t5 ⟨b5,0,none⟩ i false k nx1 (fun i' h'=>(0<=i'/\i'<=(L.length:Int)/\Ext h.size h h')/\L.length - i'.toNat < L.length - i.toNat) h':=fun h' X'=>by
    unfold bz
    rw [if_neg (by simp)]
    refine ⟨_,rfl,?_⟩
    rw [aA (by omega) (by omega)]
    exact ⟨⟨by omega,by omega,X3.trans (X'.mono z3)⟩,by omega⟩
   unfold fQ
   rw [if_neg (by simp)]
   rcases hy with ⟨rfl,hd⟩ | ⟨rfl,hd,My⟩
   ·refine ⟨s,S8.R.cs,a1,ha,g0,g1,false,by rw [← hd,← dn]; exact Ay (hc1.ext X38) rfl,?_⟩
    rw [if_neg (by simp),if_neg (by simp)]
    refine ⟨s,S8.R.cs,a1,ha,g0,g1,false,by rw [← hd,← dn]; exact Ay (hc1.ext X38) rfl,?_⟩
    rw [if_pos (by rfl)]
    exact j6 h8 X38
   ·refine ⟨s,S8.R.cs,a1,ha,g0,g1,true,by rw [← hd,← dn]; exact Ay (hc1.ext X38) rfl,?_⟩
    rw [if_pos rfl,if_neg (by simp)]
    refine ⟨y,ai.aL P8,s,S8.R.cs,a1,ha,g0,g1,f.x,hc1.ext X38,?_⟩
    refine FW (o:=f.o) (My.ext (X7.trans (X8.mono z7))) (Mf.ext X38) Z fun h9 X9=>?_
    have X39:Ext h3.size h3 h9:=X38.trans (X9.mono (by omega))
    have S9:=S3.grow X39
    rw [if_neg (by simp)]
    refine ⟨s,S9.R.cs,a1,ha,g0,g1,true,by rw [← hd,← dn]; exact Ay (hc1.ext X39) rfl,?_⟩
    rw [if_neg (by simp)]
    exact j6 h9 X39
  refine DT S5.D (fun er h6 he q6 q14 X6=>rest zOp er h6 X6 ?_) fun _ e y h6 _ _ hl hd M6 F6 X6=>rest y 0 h6 X6 ?_
  ·rcases he with rfl | rfl
   ·have:=q6 rfl; rw [lk] at this; cases this
   ·obtain ⟨b,hb,db⟩:=q14 rfl
    rw [lk] at hb; cases hb
    exact .inl ⟨rfl,by rw [← eo]; exact db⟩
  ·rw [lk] at hl; cases hl
   exact .inr ⟨rfl,by rw [← eo]; exact hd,by rw [← eo]; exact M6⟩
 ·rw [if_neg (by simpa using ci)]
  have P3:=P.ext X3 bl
  refine ⟨a.f_N,P3.cl rfl,?_⟩
  have fin:∀ (x:aj) (er:Int) (h4:Heap),Ext h3.size h3 h4->(er=6/\(∀ f∈L,f.x.f_N≠a.f_N)∨er=0/\∃ f∈L,f.x.f_N=a.f_N) ->
    ∃ (b60:Nat) (h61:Heap),b60=h4.size/\h61=h4.push (.cells (aj.cs zOp).toArray 39)/\(∃ h62:Heap,aN h61 (⟨b60,0,none⟩:Addr) 33/\h62=aM h61 (⟨b60,0,none⟩:Addr) 0 (aj.cs (x,er).1)/\(∃ v63:Int,ah h62 ((⟨b5,0,none⟩:Addr).add 34)=some (.int .u64 v63)/\(gX (some ⟨d,0,none⟩) v63 (fun (r64:Int) h65=>if ((!(((x,er).2 == 0) == (decide (r64>=0)))) || (((x,er).2 != 0) && ((x,er).2 != 6))) then (k false h65) else (∃ x66:Int,x66=(IntKind.i64.wrap (t5 + 1))/\(nx1 x66 h65))) h62))):=fun x er h4 X4 hy=>by
   have z4:=X4.size
   refine bx (cs:=aj.cs x) rfl (by decide) fun h5 P5 X5=>?_
   have X35:Ext h3.size h3 h5:=X4.trans (X5.mono z4)
   have S5:=S3.grow X35
   refine ⟨a.f_N,(P3.ext X35 P3.lt).cl rfl,Ez S5.R (by omega) (fun nn=>?_) fun j f hj fn=>?_⟩
   ·rcases hy with ⟨rfl,_⟩ | ⟨_,f,hf,fn⟩
    ·rw [if_neg (by simp)]; exact ⟨_,rfl,K h5 S5⟩
    ·exact absurd fn (nn f hf)
   ·rcases hy with ⟨_,nn⟩ | ⟨rfl,_⟩
    ·exact absurd fn (nn f (List.mem_of_getElem? hj))
    ·rw [if_neg (by simp)]; exact ⟨_,rfl,K h5 S5⟩
  refine Mo S3.D (fun hn h4 X4=>fin zOp 6 h4 X4 (.inl ⟨rfl,fun f hf fn=>?_⟩)) fun i' e x h4 hi en hl M4 F4 X4=>fin x 0 h4 X4 (.inr ⟨rfl,?_⟩)
  ·obtain ⟨e,_,q,_⟩:=S.Ho hf
   rw [fn,hn] at q; cases q
  ·obtain ⟨j,f,hj,q⟩:=S.at' (List.mem_of_getElem? hi)
   have hf:=List.mem_of_getElem? hj
   exact ⟨f,hf,by rw [S.kL f hf,q,S.kE e (List.mem_of_getElem? hi),en]⟩
end Go.Q.Yq
end
section
/- QuorumPlays walked. -/
namespace Go.Q.Yq
open Go.Q.Rw
theorem Mm {h0:Heap} {p0:Slc} {as':List S_quaestorlaw31_Act} {k:KP Bool} (L:LsAt S_quaestorlaw31_Act.cs 38 h0 p0 as') (C:∀ a∈as',∃ l o,OG h0 a l o)
  (H:∀ h',Ext h0.size h0 h'->k true h'):oD p0 k h0:=by
 unfold oD
 refine Lv fun r m h1 D hr hm X1=>bx0 fun h2 P2 X2=>?_
 have z1:=X1.size
 have z2:=X2.size
 have D2:=D.ext X2
 have X02:Ext h0.size h0 h2:=X1.trans (X2.mono z1)
 unfold um
 have aw:∀ h',Ext h0.size h0 h'->qK (fun r11 h12=>k r11 h12) h':=fun h' X=>KH fun h2 X2=>H h2 (X.trans (X2.mono X.size))
 have rl:=D.P.lt
 have ml:=D.M.lt
 have oE:∀ b,fG r m [] b->h0.size<=b/\b < h1.size:=fun b hb=>by
  rcases hb with rfl | rfl | ⟨e,he,_⟩
  ·exact ⟨hr,rl⟩
  ·exact ⟨hm,ml⟩
  ·cases he
 have no1:∀ {p:Ent->Prop},∀ e∈([]:List Ent),p e:=fun e he=>(List.not_mem_nil he).elim
 have no2:∀ {p:RE->Prop},∀ e∈([]:List RE),p e:=fun e he=>(List.not_mem_nil he).elim
 have S0:PS h0 h2 r m h1.size 0 uh [] []:=by
  refine ⟨D2,X02,fun b hb=>(oE b hb).1,Nat.zero_le _,no1,⟨P2,Row.nil _ _ _ _,rfl,(fun q=>by cases q),no2,no2⟩,fun b hb=>?_,no1,fun o=>⟨fun ⟨e,he,_⟩=>(List.not_mem_nil he).elim,fun ⟨e,he,_⟩=>(List.not_mem_nil he).elim⟩,List.Pairwise.nil⟩
  rcases hb with rfl | hb
  ·exact ⟨z1,fun q=>by have:=(oE _ q).2; omega⟩
  ·cases hb
 refine ⟨fun i h'=>0<=i/\i<=30/\∃ s E L,PS h0 h' r m h1.size i.toNat s E L,fun i _=>(30 - i).toNat,⟨Int.le_refl _,by decide,uh,[],[],S0⟩,?_⟩
 rintro i h3 ⟨i0,i1,s,E,L',S⟩
 unfold sD
 rw [L.l]
 by_cases hi:i < (as'.length:Int)/\i < 30
 ·rw [if_pos (by simpa using hi)]
  obtain ⟨a,x,ha,g0,g1,hx,hc⟩:=(L.ext S.X).it i0 hi.1
  rw [L.l] at g1
  obtain ⟨l,o,A⟩:=C x (List.mem_of_getElem? hx)
  have z3:=S.X.size
  refine ⟨a,ha,g0,g1,x,hc,bx rfl (by decide) fun h7 P7 X7=>⟨x,ai.aL P7,?_⟩⟩
  have z7:=X7.size
  have X07:Ext h0.size h0 h7:=S.X.trans (X7.mono z3)
  refine K5 (A.L.ext X07) (Dr (A.O.ext X07).p A.O.pl) fun b h10 X10 hb=>?_
  have X010:Ext h0.size h0 h10:=X07.trans (X10.mono X07.size)
  cases b with
  | true=>rw [if_pos rfl]; exact aw h10 X010
  | false =>
   rw [if_neg (by simp)]
   have X310:Ext h3.size h3 h10:=X7.trans (X10.mono z7)
   have P10:=P7.ext X10 P7.lt
   have S10:=S.grow X310
   refine ⟨x.aJ,P10.cl0 rfl,MQ (n:=6) (by decide) (by decide) fun r74 _ _=>?_⟩
   have b5O:¬ fG r m E h3.size:=fun q=>by have:=S.D.lt q; omega
   have b5R:¬ (h3.size=h1.size∨s.blk=some h3.size):=fun q=>by
    have:=S.R.lt (b:=h3.size) q
    omega
   have go:∀ t57,fK p0 (some ⟨r,0,none⟩) ⟨h1.size,0,none⟩ i ⟨h3.size,0,none⟩ true r74 t57 k (fun i' h'=>(0<=i'/\i'<=30/\∃ s E L,PS h0 h' r m h1.size i'.toNat s E L)/\(30 - i').toNat < (30 - i).toNat) h10:=fun t57 =>
    OE S10 (by omega) A (hb rfl) P10 b5O b5R fun s' E' L'' h' S' P'=>Ov S' (by omega) P' fun h'' S''=>by
     rw [aA (by omega) (by omega)]
     exact ⟨⟨by omega,by omega,s',E',L'',by rw [show (i + 1).toNat=i.toNat + 1 from by omega]; exact S''⟩,by omega⟩
   by_cases c2:r74=2
   ·rw [if_pos (by simpa using c2)]; exact go _
   ·rw [if_neg (by simpa using c2)]; exact go _
 ·rw [if_neg (by simpa using hi)]
  exact aw h3 S.X
end Go.Q.Yq
end
section
/- Arguments that are arrays of numbers. -/
namespace Go.Q
open Go.ChangeShapes Go.WideShapes
section
variable {H:Type} {enc:TypeId × Value->H} {P:Program} {t e:TypeId} {n:Nat} {q:IntKind} {w W:World} {base:Nat} {sp:Nat->Bool} {held:Bool}
end
end Go.Q
end
section
/- Arguments that came in, opened by their types. -/
namespace Go.Q
open Go.ChangeShapes Go.WideShapes
theorem xx {α:Type} {R:Nat->α->Prop}:∀ n:Nat,(∀ i,i < n->∃ y,R i y)->∃ ys:List α,ys.length=n/\∀ i y,ys[i]? = some y->R i y
 | 0,_=>⟨[],rfl,by simp⟩
 | n + 1,h=>by
  obtain ⟨ys,hl,hy⟩:=xx n fun i hi=>h i (by omega)
  obtain ⟨y,hR⟩:=h n (by omega)
  refine ⟨ys ++ [y],by simp [hl],fun i z hz=>?_⟩
  rcases Nat.lt_trichotomy i n with hi | hi | hi
  ·rw [List.getElem?_append_left (by omega)] at hz; exact hy i z hz
  ·subst hi
   rw [List.getElem?_append_right (by omega),hl] at hz
   simp at hz; subst hz; exact hR
  ·rw [List.getElem?_eq_none (by simp; omega)] at hz; cases hz
section
variable {H:Type} {enc:TypeId × Value->H} {P:Program} {t e:TypeId} {w:World} {base:Nat} {sp:Nat->Bool} {held:Bool}
theorem GY {α β:Type} {f:α->Option β}:∀ {l:List α} {ys:List β},l.mapM f=some ys->ys.length=l.length/\∀ (i:Nat) x,l[i]? = some x->∃ y,f x=some y/\ys[i]? = some y
 | [],ys,h=>by simp at h; subst h; simp
 | a :: l,ys,h=>by
  rw [List.mapM_cons] at h
  cases ha:f a with
  | none=>simp [ha] at h
  | some b =>
   cases hl:l.mapM f with
   | none=>simp [ha,hl] at h
   | some zs =>
    simp [ha,hl] at h
    subst h
    obtain ⟨h1,h2⟩:=GY hl
    refine ⟨by simp [h1],fun i x hx=>?_⟩
    cases i with
    | zero=>simp at hx; subst hx; exact ⟨b,ha,rfl⟩
    | succ i=>simp at hx; simpa using h2 i x hx
theorem BC {w:World} {base:Nat} {a:Addr} {n:Nat} {cs:List Value} (h:w.cells? base a n=some cs):cs.length=n/\ai w.heap a cs:=by
 unfold World.cells? at h
 split at h
 ·obtain ⟨h1,h2⟩:=GY h
  rw [List.length_range] at h1
  refine ⟨h1,fun i v hv=>?_⟩
  have hi:i < n:=by have:=(List.getElem?_eq_some_iff.1 hv).1; omega
  obtain ⟨y,e1,e2⟩:=h2 i i (by simp [hi])
  rw [hv] at e2; cases e2
  exact e1
 ·cases h
/-- a slice that came in -/
theorem M9 {fuel:Nat} {cs:List Value} {x:DataW H × List MemPlace} (ht:P.underlying t=some (.slice e)) (h:DataW.trod enc P w base sp held fuel t cs=some x) :
  ∃ s:Slc,cs=[Slc.v s]/\s.len<=s.cap/\s.cap<=maxLen/\(s.a=none->s.len=0/\s.cap=0) /\
   ∀ a,s.a=some a->∀ i,i < s.len->∃ es f y,es.length=P.cellsOf e/\ai w.heap (a.add (i * P.cellsOf e)) es/\DataW.trod enc P w base sp held f e es=some y:=by
 rcases DataW.trod_slice ht h with ⟨rfl,_⟩ | ⟨a,len,cap,elems,rest,n,_,rfl,_,hb,hl,hm,hlen,hel,_⟩
 ·exact ⟨⟨none,0,0⟩,rfl,Nat.le_refl _,by simp [maxLen],fun _=>⟨rfl,rfl⟩,fun a ha=>by cases ha⟩
 ·refine ⟨⟨some a,len,cap⟩,rfl,hl,hm,(fun hn=>by cases hn),fun b hb i hi=>?_⟩
  cases hb
  have hi:i < len:=hi
  have:=hel i hi
  rw [List.getElem?_eq_getElem (by omega),Option.bind_eq_some_iff] at this
  obtain ⟨es,h1,h2⟩:=this
  exact ⟨es,n,_,(BC h1).1,(BC h1).2,h2⟩
/-- bytes that came in, or other integers -/
theorem ND {q:IntKind} {fuel:Nat} {cs:List Value} {x:DataW H × List MemPlace} (ht:P.underlying t=some (.slice e)) (he:P.underlying e=some (.int q)) (ce:P.cellsOf e=1) (h:DataW.trod enc P w base sp held fuel t cs=some x) :
  ∃ (s:Slc) (zs:List Int),cs=[Slc.v s]/\s.len<=s.cap/\s.cap<=maxLen/\s.len=zs.length/\SlcAt w.heap s (zs.map (Value.int q))/\∀ n∈zs,(Lit.int q n).wf=true:=by
 obtain ⟨s,rfl,h1,h2,h3,h4⟩:=M9 ht h
 cases ha:s.a with
 | none =>
  have:=h3 ha
  exact ⟨s,[],rfl,h1,h2,by simp [this],⟨fun _=>rfl,fun b hb=>by rw [ha] at hb; cases hb⟩,by simp⟩
 | some a =>
  obtain ⟨zs,hl,hz⟩:=xx (R:=fun i n=>ah w.heap (a.add i)=some (.int q n)/\(Lit.int q n).wf=true) s.len fun i hi=>by
   obtain ⟨es,f,y,e1,e2,e3⟩:=h4 a ha i hi
   obtain ⟨n,rfl,_,hw⟩:=DataW.trod_int he e3
   rw [ce,Nat.mul_one] at e2
   exact ⟨n,by have:=e2 0 _ rfl; rwa [show (a.add i).add 0=a.add i from by simp [Addr.add]] at this,hw⟩
  refine ⟨s,zs,rfl,h1,h2,hl.symm,⟨(fun hn=>by rw [ha] at hn; cases hn),fun b hb j v hv=>?_⟩,fun n hn=>?_⟩
  ·rw [ha] at hb; cases hb
   rw [List.getElem?_map,Option.map_eq_some_iff] at hv
   obtain ⟨n,hn,rfl⟩:=hv
   exact (hz j n hn).1
  ·obtain ⟨i,hi⟩:=List.getElem?_of_mem hn
   exact (hz i n hi).2
theorem aZ {cs a:List Value} {o n:Nat} (h:(cs.drop o).take n=a):cs.drop o=a ++ cs.drop (o + n):=by
 rw [← h,← List.drop_drop,List.take_append_drop]
theorem xH {cs:List Value} {n:Nat} (h:cs.length=n):cs.drop n=[]:=by rw [← h]; exact List.drop_length
theorem open_arr {n:Nat} {q:IntKind} {fuel:Nat} {cs:List Value} {x:DataW H × List MemPlace} (ht:P.underlying t=some (.array n e)) (he:P.underlying e=some (.int q)) (ct:P.cellsOf t=n) (ce:P.cellsOf e=1)
  (h:DataW.trod enc P w base sp held fuel t cs=some x):∃ zs:List Int,cs=arr n q zs/\zs.length=n/\∀ x∈zs,(Lit.int q x).wf=true:=by
 obtain ⟨xs,m,_,_,hl,hxl,hg⟩:=DataW.trod_array ht h
 rw [ct] at hl
 obtain ⟨zs,zl,hz⟩:=xx (R:=fun i a=>cs[i]? = some (.int q a)/\(Lit.int q a).wf=true) n fun i hi=>by
  have h1:=hg i hi
  rw [ce,Nat.mul_one] at h1
  have hi':i < cs.length:=by omega
  have h2:(cs.drop i).take 1=[cs[i]]:=by rw [List.drop_eq_getElem_cons hi']; rfl
  rw [h2,List.getElem?_eq_getElem (by omega)] at h1
  obtain ⟨a,ea,_,wa⟩:=DataW.trod_int he h1
  simp only [List.cons.injEq,and_true] at ea
  exact ⟨a,by rw [List.getElem?_eq_getElem hi',ea],wa⟩
 refine ⟨zs,?_,zl,fun a ha=>?_⟩
 ·rw [Ph zl]
  apply List.ext_getElem?
  intro i
  rw [List.getElem?_map]
  by_cases hi:i < n
  ·have hzi:zs[i]? = some zs[i]:=by simp
   rw [hzi,(hz i _ hzi).1]; rfl
  ·rw [List.getElem?_eq_none (by omega),List.getElem?_eq_none (by omega)]; rfl
 ·obtain ⟨i,hi⟩:=List.getElem?_of_mem ha
  exact (hz i a hi).2
/-- a slice of integers that came in -/
def SlI (q:IntKind) (h:Heap) (s:Slc) (zs:List Int):Prop:=s.len=zs.length/\SlcAt h s (zs.map (Value.int q))/\∀ n∈zs,(Lit.int q n).wf=true
theorem MW {q:IntKind} {fuel:Nat} {cs:List Value} {x:DataW H × List MemPlace} (ht:P.underlying t=some (.slice e)) (he:P.underlying e=some (.int q)) (ce:P.cellsOf e=1) (h:DataW.trod enc P w base sp held fuel t cs=some x) :
  ∃ s:Slc,cs=[Slc.v s]/\s.len<=s.cap/\s.cap<=maxLen/\∃ zs,SlI q w.heap s zs:=by
 obtain ⟨s,zs,a,b,c,d,e,f⟩:=ND ht he ce h
 exact ⟨s,a,b,c,zs,d,e,f⟩
end
end Go.Q
end
section
/- Arguments that came in, opened by their types, with their sizes. -/
namespace Go.Q
open Go.ChangeShapes Go.WideShapes
/-- what is read is no greater than what a form reaches -/
def WtOk {H:Type} (P:Program) (t:TypeId) (d:DataW H):Prop:=∀ n∈d.weights P t,n<=reachBytes
theorem Mc {H:Type} {P:Program} {e:TypeId}:∀ {l:List (DataW H)} {d:DataW H},d∈l->∀ n∈d.weights P e,n∈DataW.weightsAll P e l
 | a :: r,d,h,n,hn=>by
  rw [DataW.weightsAll]
  rcases List.mem_cons.1 h with rfl | h
  ·exact List.mem_append.2 (.inl hn)
  ·exact List.mem_append.2 (.inr (Mc h n hn))
section
variable {H:Type} {enc:TypeId × Value->H} {P:Program} {t e:TypeId} {w:World} {base:Nat} {sp:Nat->Bool} {held:Bool}
theorem H5 {fuel:Nat} {cs:List Value} {x:DataW H × List MemPlace} (ht:P.underlying t=some (.slice e)) (W:WtOk P t x.1) (h:DataW.trod enc P w base sp held fuel t cs=some x) :
  ∃ s:Slc,cs=[Slc.v s]/\s.len<=s.cap/\s.cap<=maxLen/\(s.a=none->s.len=0/\s.cap=0)/\s.len * P.bytesOf e<=reachBytes /\
   ∀ a,s.a=some a->∀ i,i < s.len->∃ es f y,es.length=P.cellsOf e/\ai w.heap (a.add (i * P.cellsOf e)) es/\DataW.trod enc P w base sp held f e es=some y/\WtOk P e y.1:=by
 rcases DataW.trod_slice ht h with ⟨rfl,_⟩ | ⟨a,len,cap,elems,rest,n,_,rfl,rfl,hb,hl,hm,hlen,hel,_⟩
 ·exact ⟨⟨none,0,0⟩,rfl,Nat.le_refl _,by simp [maxLen],(fun _=>⟨rfl,rfl⟩),by simp,fun a ha=>by cases ha⟩
 ·have wt:∀ n∈((elems.map (·.1)).length + (rest.map (·.1)).length) * P.bytesOf e :: (DataW.weightsAll P e (elems.map (·.1)) ++ DataW.weightsAll P e (rest.map (·.1))),n<=reachBytes:=fun n hn=>W n (by
   simp only [DataW.weights,ht]; exact hn)
  refine ⟨⟨some a,len,cap⟩,rfl,hl,hm,(fun hn=>by cases hn),?_,fun b hb i hi=>?_⟩
  ·have:=wt _ List.mem_cons_self
   rw [List.length_map,hlen] at this
   exact Nat.le_trans (Nat.mul_le_mul_right _ (Nat.le_add_right _ _)) this
  ·cases hb
   have hi:i < len:=hi
   have h1:=hel i hi
   rw [List.getElem?_eq_getElem (by omega),Option.bind_eq_some_iff] at h1
   obtain ⟨es,h2,h3⟩:=h1
   refine ⟨es,n,_,(BC h2).1,(BC h2).2,h3,fun m hm=>wt m (List.mem_cons_of_mem _ (List.mem_append.2 (.inl (Mc (List.mem_map.2 ⟨_,List.getElem_mem _,rfl⟩) m hm))))⟩
theorem uk {fs:Array Field} {fuel:Nat} {cs:List Value} {x:DataW H × List MemPlace} (ht:P.underlying t=some (.struct fs)) (W:WtOk P t x.1) (h:DataW.trod enc P w base sp held fuel t cs=some x) :
  ∃ n,cs.length=P.cellsOf t/\∀ (i:Nat) f,fs[i]? = some f->∃ y,DataW.trod enc P w base sp held n f.type ((cs.drop f.offset).take (P.cellsOf f.type))=some y/\WtOk P f.type y.1:=by
 obtain ⟨xs,n,_,rfl,hl,hxl,hf⟩:=DataW.trod_struct ht h
 refine ⟨n,hl,fun i f hi=>?_⟩
 have h1:=hf i f hi
 have hi2:i < xs.length:=by rw [hxl]; exact (Array.getElem?_eq_some_iff.1 hi).1
 refine ⟨xs[i],by rw [h1]; simp,fun m hm=>W m ?_⟩
 simp only [DataW.weights,ht]
 exact DataW.weights_mem_each (j:=i) (t:=f.type) (d:=xs[i].1) (by rw [List.getElem?_map,Array.getElem?_toList,hi]; rfl) (by simp [List.getElem?_eq_getElem hi2]) m hm
theorem open_lsw {α:Type} {cs:α->List Value} {w':Nat} {Ok:α->Prop} {fuel:Nat} {c:List Value} {x:DataW H × List MemPlace} (ht:P.underlying t=some (.slice e)) (hc:P.cellsOf e=w')
  (he:∀ {fuel:Nat} {cs':List Value} {x:DataW H × List MemPlace},WtOk P e x.1->DataW.trod enc P w base sp held fuel e cs'=some x->∃ y:α,cs'=cs y/\Ok y) (W:WtOk P t x.1) (h:DataW.trod enc P w base sp held fuel t c=some x) :
  ∃ s:Slc,c=[Slc.v s]/\s.len<=s.cap/\s.cap<=maxLen/\s.len * P.bytesOf e<=reachBytes/\∃ ys:List α,LsAt cs w' w.heap s ys/\∀ y∈ys,Ok y:=by
 obtain ⟨s,rfl,q1,q2,q3,q5,q4⟩:=H5 ht W h
 rw [hc] at q4
 cases ha:s.a with
 | none =>
  have:=q3 ha
  exact ⟨s,rfl,q1,q2,q5,[],⟨by simp [this],fun i y hy=>by simp at hy⟩,by simp⟩
 | some a =>
  obtain ⟨ys,hl,hz⟩:=xx (R:=fun i (y:α)=>ai w.heap (a.add (i * w')) (cs y)/\Ok y) s.len fun i hi=>by
   obtain ⟨es,f,y,e1,e2,e3,e4⟩:=q4 a ha i hi
   obtain ⟨z,rfl,r⟩:=he e4 e3
   exact ⟨z,e2,r⟩
  refine ⟨s,rfl,q1,q2,q5,ys,⟨hl.symm,fun i y hy=>⟨a,ha,(hz i y hy).1⟩⟩,fun y hy=>?_⟩
  obtain ⟨i,hi⟩:=List.getElem?_of_mem hy
  exact (hz i y hi).2
theorem EW {q:IntKind} {fuel:Nat} {cs:List Value} {x:DataW H × List MemPlace} (ht:P.underlying t=some (.slice e)) (he:P.underlying e=some (.int q)) (ce:P.cellsOf e=1) (W:WtOk P t x.1) (h:DataW.trod enc P w base sp held fuel t cs=some x) :
  ∃ s:Slc,cs=[Slc.v s]/\s.len<=s.cap/\s.cap<=maxLen/\s.len * P.bytesOf e<=reachBytes/\∃ zs,SlI q w.heap s zs:=by
 obtain ⟨s,e1,a,b,c⟩:=MW ht he ce h
 obtain ⟨s',e2,_,_,_,d,_⟩:=H5 ht W h
 have:s=s':=by
  rw [e1] at e2
  obtain ⟨a1,l1,c1⟩:=s
  obtain ⟨a2,l2,c2⟩:=s'
  simp [Slc.v] at e2
  obtain ⟨rfl,rfl,rfl⟩:=e2
  rfl
 subst this
 exact ⟨s,e1,a,b,d,c⟩
end
end Go.Q
end

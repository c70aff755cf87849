/- A part of the proof of statements of this seat: lemmas, no statement of their own. -/
import Derived.Test.YthjafnfadiijgaaYiZbb
import Derived.Test.YthjafnfadiijgaaYiZba
set_option linter.unusedVariables false
set_option linter.unusedSimpArgs false
set_option linter.unusedSectionVars false
set_option maxRecDepth 100000
section
/- What was known, and who led. -/
namespace Go.Q.Yi
open Rf
section
variable [QC] {n:Int} {O O' X:bz} {h h':Heap} {M:MLy} {R:Int->RS} {S:Int->SS} {Ls:List Let} {kn:List Ent} {ld:List Int} {i:Int}
theorem DK (W:WAt n O h M R S Ls kn ld) {k:Heap->Prop} (hl:kn.length<=3000)
  (H:∀ O' h' s',WAt n O' h' { M with kn:=s' } R S Ls (kn ++ [(0,[])]) ld->Go O h O' h'->k h'):App 65 2 32 [.int .u64 0,.slice none 0 0] h M.kn 1 (ae.cs ⟨0,⟨none,0,0⟩⟩) (fun s h'=>∃ h2:Heap,WrH h' ((⟨M.w,0,none⟩:Addr).add 2)/\h2=setH h' ((⟨M.w,0,none⟩:Addr).add 2) (Slc.v s)/\k h2):=by
 have ll:=W.k.len
 obtain ⟨vs,T,e,I⟩:=W.k
 obtain ⟨_,TL,_⟩:=W.l
 refine App.BR T (Nat.zero_le _) rfl rfl (uu (by kernel_rfl)) (by omega) (by simp only [maxLen]; omega) fun s h1 R1 l1 z1 o1 b1 _=>?_
 have S1:Stp (fun g=>M.kn.blk=some g) h h1:=⟨z1,fun g hg hn=>o1 g hg hn⟩
 have sb:∀ g,s.blk=some g->M.kn.blk=some g∨h.size<=g:=fun g hg=>by
  rcases b1 with ⟨b1,_⟩ | b1
  ·exact .inl (by rw [← b1]; exact hg)
  ·rw [b1] at hg; cases hg; exact .inr (Nat.le_refl _)
 have K1:=S1.blk W.w fun e=>T.aZ W.w (by decide) e
 obtain ⟨w1,f1⟩:=K1.put (i:=2) (v:=Slc.v s) (by show 2 < 5; omega)
 refine ⟨_,w1,rfl,?_⟩
 obtain ⟨K2,U2⟩:=f1 _ rfl
 generalize setH h1 ((⟨M.w,0,none⟩:Addr).add 2) (Slc.v s)=h2 at *
 have S2:Stp (fun g=>g=M.w) h1 h2:=.dQ U2 (.inl rfl)
 have P:Stp (fun g=>g=M.w∨M.kn.blk=some g) h h2:=(S1.mono fun g hg=>.inl (.inr hg)).trans S2 fun g hg=>.inl (.inl hg)
 have hO:∀ g,OB O s g->O g∨h.size<=g:=fun g hg=>hg.elim .inl fun q=>(sb g q).elim (fun q=>.inl (W.ow.k g q)) .inr
 have PO:∀ g,(g=M.w∨M.kn.blk=some g)->O g∨h.size<=g:=fun g hg=>.inl (hg.elim (fun e=>by subst e; exact W.ow.w) (W.ow.k g))
 have ob:∀ g,OB O s g->g < h2.size:=fun g hg=>by
  have:=U2.size; have:=P.size
  exact hg.elim (fun q=>by have:=W.ob g q; omega) fun q=>by have:=(R1.bd q).2; omega
 have PP:=P.mono PO
 have R2:=S2.row R1 fun g hg e=>by subst e; exact R1.aZ K1 (by decide) hg
 have KI2:KnI (OB O s) h2 s (kn ++ [(0,[])]):=by
  refine ⟨vs ++ [⟨0,⟨none,0,0⟩⟩],by rw [yC]; exact R2,by simp [e],fun j u y hu hy=>?_⟩
  rcases Nat.lt_or_ge j vs.length with hj | hj
  ·rw [List.getElem?_append_left hj] at hu
   rw [List.getElem?_append_left (by rw [← e]; exact hj)] at hy
   exact (I j u y hu hy).step PP hO
  ·rw [List.getElem?_append_right hj] at hu
   rw [List.getElem?_append_right (by rw [← e]; exact hj),← e] at hy
   have:j - vs.length=0:=by have:=(List.getElem?_eq_some_iff.1 hu).1; simp at this; omega
   rw [this] at hu hy
   simp at hu hy
   subst hu; subst hy
   exact fun _ _=>⟨rfl,pJ _,rfl⟩
 refine H (OB O s) h2 s (W.rows (X:=fun g=>g=M.w∨M.kn.blk=some g) P (fun g hg=>hg.elim .inl fun q=>.inr (.inr (.inl q))) ⟨rfl,rfl,rfl,rfl⟩ hO (fun g hg=>.inl hg) ob K2 (W.l.move P PO hO fun g hg e=>?_) KI2 sb (P.row W.d fun g hg e=>?_) ⟨.inl W.ow.w,fun g hg=>.inl (W.ow.m g hg),fun g hg=>.inl (W.ow.l g hg),fun g hg=>.inr hg,fun g hg=>.inl (W.ow.d g hg)⟩) ⟨PP,hO,fun g hg=>.inl hg⟩
 ·rcases e with rfl | e
  ·exact TL.aZ W.w (by decide) hg
  ·exact TL.rA T (by decide) hg e
 ·rcases e with rfl | e
  ·exact W.d.aZ W.w (by decide) hg
  ·exact W.d.rA T (by decide) hg e
theorem FR (W:WAt n O h M R S Ls kn ld) {j:Nat} {e:Ent} (he:kn[j]? = some e):∃ a v,M.kn.a=some a/\aJ h (a.add (j * 2)) (ae.cs v)/\Imm O h fun h=>ry h v e:=by
 have ll:=W.k.len
 obtain ⟨vs,T,ev,I⟩:=W.k
 obtain ⟨v,hv⟩:∃ v,vs[j]? = some v:=⟨_,List.getElem?_eq_getElem (by rw [ev]; exact (List.getElem?_eq_some_iff.1 he).1)⟩
 obtain ⟨a,ha,c⟩:=(LsAt.tJ (cs:=ae.cs) (w:=2) (fun x=>rfl) T.slc (by rw [ll,ev]) (by decide)).at' j v hv
 exact ⟨a,v,ha,c,I j v e hv he⟩
theorem Fq (W:WAt n O h M R S Ls kn ld) {j:Nat} (hj:j < kn.length) {v:ae} {x:Ent} (V:Imm O h fun h=>ry h v x) {a:Addr} (ha:M.kn.a=some a) :
  dE h (a.add (j * 2)) 2/\WAt n O (aU h (a.add (j * 2)) 0 (ae.cs v)) M R S Ls (kn.set j x) ld/\Go O h O (aU h (a.add (j * 2)) 0 (ae.cs v)):=by
 have ll:=W.k.len
 obtain ⟨vs,T,ev,I⟩:=W.k
 obtain ⟨_,TL,_⟩:=W.l
 obtain ⟨w,R2,_⟩:=Rw.GN (cs:=ae.cs) (w:=2) (fun _=>rfl) T (by rw [ll,ev]) (i:=j) (by rw [ev]; exact hj) v ha
 have hb:M.kn.blk=some a.block:=by simp [Slc.blk,ha]
 have P:Stp (fun g=>M.kn.blk=some g) h (aU h (a.add (j * 2)) 0 (ae.cs v)):=.sets (.inl (by rw [add_block]; exact hb))
 generalize aU h (a.add (j * 2)) 0 (ae.cs v)=h2 at *
 have PO:∀ g,M.kn.blk=some g->O g∨h.size<=g:=fun g hg=>.inl (W.ow.k g hg)
 have PP:=P.mono PO
 refine ⟨w,W.rows (M':=M) (X:=fun g=>M.kn.blk=some g) P (fun g hg=>.inr (.inr (.inl hg))) ⟨rfl,rfl,rfl,rfl⟩ (fun g hg=>.inl hg) (fun g hg=>hg) (fun g hg=>by have:=W.ob g hg; have:=P.size; omega) (P.blk W.w fun e=>T.aZ W.w (by decide) e) (W.l.move P PO (fun g hg=>.inl hg) fun g hg e=>TL.rA T (by decide) hg e) ⟨vs.set j v,R2,by simp [ev],fun q u y hu hy=>?_⟩ (fun g hg=>.inl hg) (P.row W.d fun g hg e=>W.d.rA T (by decide) hg e) W.ow,⟨PP,fun g hg=>.inl hg,fun g hg=>hg⟩⟩
 by_cases c:q=j
 ·subst c
  rw [List.getElem?_set_self (by omega)] at hu hy
  cases hu; cases hy
  exact V.stp PP
 ·rw [List.getElem?_set_ne (fun e=>c e.symm)] at hu hy
  exact (I q u y hu hy).stp PP
/-! who led -/
theorem Es (l:List Int):(ins l).length=l.length:=by simp [ins]
theorem Jp (W:WAt n O h M R S Ls kn ld):M.ld.len=ld.length:=by
 have:=W.d.len; rw [Es] at this; exact this
theorem CE (W:WAt n O h M R S Ls kn ld) {k:Heap->Prop} (hl:ld.length<=3000)
  (H:∀ O' h' s',WAt n O' h' { M with ld:=s' } R S Ls kn (ld ++ [-1])->Go O h O' h'->k h'):App 3 1 8 [.int .i64 0] h M.ld 1 [.int .i64 (-1)] (fun s h'=>∃ h2:Heap,WrH h' ((⟨M.w,0,none⟩:Addr).add 3)/\h2=setH h' ((⟨M.w,0,none⟩:Addr).add 3) (Slc.v s)/\k h2):=by
 have ll:=Jp W
 have T:=W.d
 obtain ⟨_,TL,_⟩:=W.l
 obtain ⟨_,TK,_⟩:=W.k
 refine App.BR T (Nat.zero_le _) rfl rfl (uu (by kernel_rfl)) (by omega) (by simp only [maxLen]; omega) fun s h1 R1 l1 z1 o1 b1 _=>?_
 have S1:Stp (fun g=>M.ld.blk=some g) h h1:=⟨z1,fun g hg hn=>o1 g hg hn⟩
 have sb:∀ g,s.blk=some g->M.ld.blk=some g∨h.size<=g:=fun g hg=>by
  rcases b1 with ⟨b1,_⟩ | b1
  ·exact .inl (by rw [← b1]; exact hg)
  ·rw [b1] at hg; cases hg; exact .inr (Nat.le_refl _)
 have K1:=S1.blk W.w fun e=>T.aZ W.w (by decide) e
 obtain ⟨w1,f1⟩:=K1.put (i:=3) (v:=Slc.v s) (by show 3 < 5; omega)
 refine ⟨_,w1,rfl,?_⟩
 obtain ⟨K2,U2⟩:=f1 _ rfl
 generalize setH h1 ((⟨M.w,0,none⟩:Addr).add 3) (Slc.v s)=h2 at *
 have S2:Stp (fun g=>g=M.w) h1 h2:=.dQ U2 (.inl rfl)
 have P:Stp (fun g=>g=M.w∨M.ld.blk=some g) h h2:=(S1.mono fun g hg=>.inl (.inr hg)).trans S2 fun g hg=>.inl (.inl hg)
 have hO:∀ g,OB O s g->O g∨h.size<=g:=fun g hg=>hg.elim .inl fun q=>(sb g q).elim (fun q=>.inl (W.ow.d g q)) .inr
 have PO:∀ g,(g=M.w∨M.ld.blk=some g)->O g∨h.size<=g:=fun g hg=>.inl (hg.elim (fun e=>by subst e; exact W.ow.w) (W.ow.d g))
 have ob:∀ g,OB O s g->g < h2.size:=fun g hg=>by
  have:=U2.size; have:=P.size
  exact hg.elim (fun q=>by have:=W.ob g q; omega) fun q=>by have:=(R1.bd q).2; omega
 have PP:=P.mono PO
 have R2:=S2.row R1 fun g hg e=>by subst e; exact R1.aZ K1 (by decide) hg
 refine H (OB O s) h2 s (W.rows (X:=fun g=>g=M.w∨M.ld.blk=some g) P (fun g hg=>hg.elim .inl fun q=>.inr (.inr (.inr q))) ⟨rfl,rfl,rfl,rfl⟩ hO (fun g hg=>.inl hg) ob K2 (W.l.move P PO hO fun g hg e=>?_) (W.k.move P PO hO fun g hg e=>?_) (fun g hg=>.inl hg) (by simpa [ins] using R2) ⟨.inl W.ow.w,fun g hg=>.inl (W.ow.m g hg),fun g hg=>.inl (W.ow.l g hg),fun g hg=>.inl (W.ow.k g hg),fun g hg=>.inr hg⟩) ⟨PP,hO,fun g hg=>.inl hg⟩
 ·rcases e with rfl | e
  ·exact TL.aZ W.w (by decide) hg
  ·exact TL.rA T (by decide) hg e
 ·rcases e with rfl | e
  ·exact TK.aZ W.w (by decide) hg
  ·exact TK.rA T (by decide) hg e
theorem D8 (W:WAt n O h M R S Ls kn ld) {j:Nat} {x:Int} (hx:ld[j]? = some x):∃ a,M.ld.a=some a/\af h (a.add (j * 1))=some (.int .i64 x):=by
 have T:=W.d.slc
 cases ha:M.ld.a with
 | none =>
  have:=T.1 ha
  have e:=congrArg List.length this
  rw [Es] at e
  have:=(List.getElem?_eq_some_iff.1 hx).1
  simp at e
  rw [e] at this
  simp at this
 | some a =>
  refine ⟨a,rfl,?_⟩
  rw [Nat.mul_one]
  exact T.2 a ha j _ (by simp [ins,hx])
theorem Du (W:WAt n O h M R S Ls kn ld) {j:Nat} (hj:j < ld.length) {x:Int} {a:Addr} (ha:M.ld.a=some a) :
  WrH h (a.add (j * 1))/\WAt n O (setH h (a.add (j * 1)) (.int .i64 x)) M R S Ls kn (ld.set j x)/\Go O h O (setH h (a.add (j * 1)) (.int .i64 x)):=by
 have ll:=Jp W
 have T:=W.d
 obtain ⟨_,TL,_⟩:=W.l
 obtain ⟨_,TK,_⟩:=W.k
 have hb:M.ld.blk=some a.block:=by simp [Slc.blk,ha]
 have ag:a=⟨a.block,0,none⟩:=by
  rcases T.2.2 with ⟨k,_⟩ | ⟨g,cur,a1,_⟩
  ·rw [k] at ha; cases ha
  ·rw [ha] at a1; cases a1; rfl
 generalize a.block=g at *
 subst ag
 rw [add_mk,Nat.zero_add,Nat.mul_one]
 obtain ⟨w,R2,_⟩:=Rw.wI (v:=.int .i64 x) T ha (j:=j) (by omega)
 have P:Stp (fun g=>M.ld.blk=some g) h (setH h ⟨g,j,none⟩ (.int .i64 x)):=.set (.inl hb)
 generalize setH h ⟨g,j,none⟩ (.int .i64 x)=h2 at *
 have PO:∀ g,M.ld.blk=some g->O g∨h.size<=g:=fun g hg=>.inl (W.ow.d g hg)
 have PP:=P.mono PO
 refine ⟨w,W.rows (M':=M) (X:=fun g=>M.ld.blk=some g) P (fun g hg=>.inr (.inr (.inr hg))) ⟨rfl,rfl,rfl,rfl⟩ (fun g hg=>.inl hg) (fun g hg=>hg) (fun g hg=>by have:=W.ob g hg; have:=P.size; omega) (P.blk W.w fun e=>T.aZ W.w (by decide) e) (W.l.move P PO (fun g hg=>.inl hg) fun g hg e=>TL.rA T (by decide) hg e) (W.k.move P PO (fun g hg=>.inl hg) fun g hg e=>TK.rA T (by decide) hg e) (fun g hg=>.inl hg) ?_ W.ow,⟨PP,fun g hg=>.inl hg,fun g hg=>hg⟩⟩
 have:ins (ld.set j x)=(ins ld).set j (.int .i64 x):=by simp [ins,List.map_set]
 rw [this]; exact R2
end
end Go.Q.Yi
end
section
/- A member is looked at. -/
namespace Go.Q.Yi
open Rf
def ug (h:Heap) (a:Addr):Nat:=match af h a with | some (.slice _ l _)=>1000 - l | _=>0
theorem wP {h:Heap} {a:Addr} {s:Slc} (e:af h a=some (Slc.v s)):ug h a=1000 - s.len:=by unfold ug; rw [e]
theorem FT {r:RS} (w:WL r) (p:Int):(r.entry p).1.2.length<=1099511627776:=by
 unfold RS.entry
 split
 ·show 0<=_; omega
 ·split
  ·show 0<=_; omega
  ·have:∀ x∈(r.log.frm p 1).1,x.2.length<=1099511627776:=fun x hx=>by
    unfold Lg.frm at hx
    split at hx
    ·cases hx
    ·split at hx
     ·cases hx
     ·exact ((w.ok.drop _).take _ x hx).2.2
   split
   ·rename_i x rest e
    exact this x (by rw [e]; exact List.mem_cons_self)
   ·show 0<=_; omega
/-- an entry that was copied anew stays -/
theorem N7 {O:bz} {h h0:Heap} {v:ae} {x:Ent} (ht:v.cZ=x.1) (T:Row h0.size h 5 1 v.oH (b8 x.2)) (ob:∀ g,O g->g < h0.size):Imm O h fun h=>ry h v x:=fun h' p=>by
 have T':=p.row T fun g hg hO=>by have:=(T.bd hg).1; have:=ob g hO; omega
 exact ⟨ht,T'.slc,by simpa using T'.len⟩
/-- what a loop over a world carries -/
structure LkI [QC] (n:Int) (G:Gh) (R:Int->RS) (S:Int->SS) (Ls:List Let) (M0:MLy) (h:Heap) (O:bz) (M:MLy) (kn:List Ent) (ld:List Int):Prop where
 W:WAt n O h M R S Ls kn ld
 K:KI n G kn
 D:DI G ld
 kl:kn.length<=300
 dl:ld.length<=300
 w:M.w=M0.w
 rs:M.rs=M0.rs
section
variable [QC] {n:Int} {O:bz} {h:Heap} {M:MLy} {R:Int->RS} {S:Int->SS} {Ls:List Let} {kn:List Ent} {ld:List Int} {i:Int} {G:Gh} {B:Nat}
theorem LkI.ext {M0:MLy} {h':Heap} (A:LkI n G R S Ls M0 h O M kn ld) (X:Ext h.size h h'):LkI n G R S Ls M0 h' O M kn ld:=⟨A.W.ext X,A.K,A.D,A.kl,A.dl,A.w,A.rs⟩
/-- the leader is noted -/
theorem Eb {M0:MLy} {k:KP Unit} {nx:KP Int} (A:LkI n G R S Ls M0 h O M kn ld) (C:Core n B G R) (hi:In n i) (h2:(R i).role=2) (t3:(R i).term < 300)
  (H:∀ O' h' M' ld',LkI n G R S Ls M0 h' O' M' kn ld'->k () h'):nE (some ⟨M0.w,0,none⟩) i (some ⟨(M0.rs i).b,0,none⟩) k nx h:=by
 have mi:=C.mi i hi.1 hi.2
 have t0:=mi.t0
 unfold nE
 refine ⟨fun _ h'=>∃ O' M' ld',LkI n G R S Ls M0 h' O' M' kn ld',fun _ h'=>ug h' ((⟨M0.w,0,none⟩:Addr).add 3),⟨O,M,ld,A⟩,?_⟩
 rintro h1 ⟨O1,M1,ld1,A1⟩
 have W:=A1.W
 have Ri:=W.r i hi
 have c3:af h1 ((⟨M0.w,0,none⟩:Addr).add 3)=some (Slc.v M1.ld):=by rw [← A1.w]; exact W.c 3
 have dl1:=Jp W
 rw [A1.rs] at Ri
 unfold qw
 refine ⟨_,rfl,M1.ld,c3,sF Ri ⟨c3,?_⟩⟩
 rw [dl1,aY (x:=(ld1.length:Int)) (by omega) (by have:=A1.dl; omega)]
 by_cases hl:(ld1.length:Int)<=(R i).term
 ·rw [if_pos (by simpa using hl)]
  have X:=Ext.push h1 (.cells ([.int .i64 (-1)]:List Value).toArray 3) (Nat.le_refl _)
  have A2:=A1.ext X
  refine ⟨M1.ld,c3,_,_,rfl,rfl,?_⟩
  generalize h1.push (.cells ([.int .i64 (-1)]:List Value).toArray 3)=h2 at *
  have c3':ug h1 ((⟨M0.w,0,none⟩:Addr).add 3)=1000 - ld1.length:=by rw [wP c3,dl1]
  have:=CE (k:=fun h'=>(∃ O' M' ld',LkI n G R S Ls M0 h' O' M' kn ld')/\ug h' ((⟨M0.w,0,none⟩:Addr).add 3) < ug h1 ((⟨M0.w,0,none⟩:Addr).add 3)) A2.W (by have:=A1.dl; omega) fun O3 h3 s3 W3 G3=>by
   refine ⟨⟨O3,_,_,W3,A1.K,A1.D.more,A1.kl,by simp; omega,A1.w,A1.rs⟩,?_⟩
   have c4:af h3 ((⟨M0.w,0,none⟩:Addr).add 3)=some (Slc.v s3):=by rw [← A1.w]; exact W3.c 3
   have e4:=Jp W3
   simp at e4
   rw [wP c4,c3',e4]
   omega
  rw [A1.w] at this
  exact this
 ·rw [if_neg (by simpa using hl)]
  obtain ⟨dk,dk2⟩:=A1.D.look mi hi.1 h2
  obtain ⟨y,hy⟩:∃ y,ld1[(R i).term.toNat]? = some y:=⟨_,List.getElem?_eq_getElem (by omega)⟩
  obtain ⟨a,ha,ca⟩:=D8 W hy
  have j7:iU (some ⟨M0.w,0,none⟩) i (some ⟨(M0.rs i).b,0,none⟩) k nx (fun s h'=>(∃ O' M' ld',LkI n G R S Ls M0 h' O' M' kn ld')/\ug h' ((⟨M0.w,0,none⟩:Addr).add 3) < ug h1 ((⟨M0.w,0,none⟩:Addr).add 3)) h1:=by
   unfold iU
   refine ⟨_,rfl,M1.ld,c3,sF Ri ⟨c3,a,ha,t0,by rw [dl1]; omega,?_⟩⟩
   obtain ⟨w,W2,G2⟩:=Du W (j:=(R i).term.toNat) (by omega) (x:=i) ha
   exact ⟨_,w,rfl,H O1 _ M1 _ ⟨W2,A1.K,dk2,A1.kl,by simp; exact A1.dl,A1.w,A1.rs⟩⟩
  refine ⟨M1.ld,c3,sF Ri ⟨c3,a,ha,t0,by rw [dl1]; omega,y,ca,?_⟩⟩
  by_cases hy0:y>=0
  ·rw [if_pos (by simpa using hy0)]
   refine ⟨M1.ld,c3,sF Ri ⟨c3,a,ha,t0,by rw [dl1]; omega,y,ca,?_⟩⟩
   have:=dk y hy hy0
   subst this
   unfold iV
   rw [if_neg (by simp)]
   exact j7
  ·rw [if_neg (by simpa using hy0)]
   unfold iV
   rw [if_neg (by simp)]
   exact j7
/-- an entry that is committed is held against what was known -/
theorem Dp {M0:MLy} {k:KP Unit} {nx:KP Int} {p:Int} {v:ae} {x:Ent} {b:Nat} (A:LkI n G R S Ls M0 h O M kn ld) (C:Core n B G R) (hi:In n i) (p1:1<=p) (p2:p < 300) (pc:p<=(R i).commit) (he:(R i).entry p=(x,0))
  (Bx:Blk h b (ae.cs v) 65) (nb:¬ O b) (V:Imm O h fun h=>ry h v x) (cl:x.2.length<=1099511627776)
  (H:∀ O' h' M' kn',LkI n G R S Ls M0 h' O' M' kn' ld->nx (p + 1) h'):nM (some ⟨M0.w,0,none⟩) i (some ⟨(M0.rs i).b,0,none⟩) p ⟨b,0,none⟩ k nx h:=by
 have mi:=C.mi i hi.1 hi.2
 unfold nM
 refine ⟨fun _ h'=>∃ O' M' kn',LkI n G R S Ls M0 h' O' M' kn' ld/\Blk h' b (ae.cs v) 65/\¬ O' b/\Imm O' h' fun h=>ry h v x,fun _ h'=>ug h' ((⟨M0.w,0,none⟩:Addr).add 2),⟨O,M,kn,A,Bx,nb,V⟩,?_⟩
 rintro h1 ⟨O1,M1,kn1,A1,Bx,nb,V⟩
 have W:=A1.W
 have c2:af h1 ((⟨M0.w,0,none⟩:Addr).add 2)=some (Slc.v M1.kn):=by rw [← A1.w]; exact W.c 2
 have kl1:=W.k.len
 unfold qo
 refine ⟨_,rfl,M1.kn,c2,?_⟩
 rw [kl1,aY (x:=(kn1.length:Int)) (by omega) (by have:=A1.kl; omega)]
 by_cases hl:(kn1.length:Int) < p
 ·rw [if_pos (by simpa using hl)]
  have X:=Ext.push h1 (.cells (ae.cs ⟨0,⟨none,0,0⟩⟩).toArray 65) (Nat.le_refl _)
  have A2:=A1.ext X
  have Bx2:=Bx.ext X Bx.lt
  have V2:=V.ext X
  refine ⟨M1.kn,c2,_,_,rfl,rfl,?_⟩
  generalize h1.push (.cells (ae.cs ⟨0,⟨none,0,0⟩⟩).toArray 65)=h2 at *
  have c2':ug h1 ((⟨M0.w,0,none⟩:Addr).add 2)=1000 - kn1.length:=by rw [wP c2,kl1]
  have:=DK (k:=fun h'=>(∃ O' M' kn',LkI n G R S Ls M0 h' O' M' kn' ld/\Blk h' b (ae.cs v) 65/\¬ O' b/\Imm O' h' fun h=>ry h v x)/\ug h' ((⟨M0.w,0,none⟩:Addr).add 2) < ug h1 ((⟨M0.w,0,none⟩:Addr).add 2)) A2.W (by have:=A1.kl; omega) fun O3 h3 s3 W3 G3=>by
   refine ⟨⟨O3,_,_,⟨W3,A1.K.more,A1.D,by simp; omega,A1.dl,A1.w,A1.rs⟩,G3.p.blk Bx2 nb,fun hO=>(G3.o b hO).elim nb fun q=>by have:=Bx2.lt; omega,G3.imm V2⟩,?_⟩
   have c4:af h3 ((⟨M0.w,0,none⟩:Addr).add 2)=some (Slc.v s3):=by rw [← A1.w]; exact W3.c 2
   have e4:=W3.k.len
   simp at e4
   rw [wP c4,c2',e4]
   omega
  rw [A1.w] at this
  exact this
 ·rw [if_neg (by simpa using hl)]
  rw [aY (x:=p - 1) (by omega) (by omega)]
  have pt:(p - 1).toNat=p.toNat - 1:=by omega
  obtain ⟨e,hke⟩:∃ e,kn1[(p - 1).toNat]? = some e:=⟨_,List.getElem?_eq_getElem (by omega)⟩
  obtain ⟨a,u,ha,ca,U⟩:=FR W hke
  obtain ⟨kk,K2⟩:=A1.K.look C.el mi p1 pc he
  rw [← pt] at kk K2
  refine ⟨M1.kn,c2,a,ha,by omega,by rw [kl1]; omega,u,ca,_,_,rfl,rfl,_,dE.eQ (Blk.push h1 _ _) (by show 2<=2; omega),rfl,?_⟩
  have P1:=(Blk.push h1 (ae.cs ⟨0,⟨none,0,0⟩⟩) 65).jZ (vs:=ae.cs u) rfl
  have X:Ext h1.size h1 (aU (h1.push (.cells (ae.cs ⟨0,⟨none,0,0⟩⟩).toArray 65)) ⟨h1.size,0,none⟩ 0 (ae.cs u)):=(Ext.push h1 _ (Nat.le_refl _)).trans (Ext.sets _ _ _ (Nat.le_refl _))
  have A2:=A1.ext X
  have Bx2:=Bx.ext X Bx.lt
  have V2:=V.ext X
  have U2:=U.ext X
  obtain ⟨bb,ebb⟩:∃ c,c=h1.size:=⟨_,rfl⟩
  rw [← ebb] at P1 A2 Bx2 V2 U2 ⊢
  generalize aU (h1.push (.cells (ae.cs ⟨0,⟨none,0,0⟩⟩).toArray 65)) ⟨bb,0,none⟩ 0 (ae.cs u)=h2 at *
  have W2:=A2.W
  have c2b:af h2 ((⟨M0.w,0,none⟩:Addr).add 2)=some (Slc.v M1.kn):=by rw [← A1.w]; exact W2.c 2
  have done:∀ {h3:Heap} {O3:bz} {M3:MLy} {kn3:List Ent} {nx3:KP Unit},LkI n G R S Ls M0 h3 O3 M3 kn3 ld->dx (some ⟨M0.w,0,none⟩) i (some ⟨(M0.rs i).b,0,none⟩) p k nx h3:=fun {h3 O3 M3 kn3 nx3} A3=>by
   unfold dx
   refine ⟨_,rfl,?_⟩
   rw [aY (by omega) (by omega)]
   exact H O3 h3 M3 kn3 A3
  refine ⟨u.cZ,by rw [P1.cell]; rfl,?_⟩
  rw [U.now.t]
  by_cases h0:e.1=0
  ·rw [if_pos (by simpa using h0)]
   obtain ⟨w,W3,G3⟩:=Fq W2 (j:=(p - 1).toNat) (by omega) V2 ha
   refine ⟨M1.kn,c2b,v,aJ.eQ Bx2,a,ha,by omega,by rw [kl1]; omega,_,w,rfl,done (nx3:=fun _ _=>True) (O3:=O1) (M3:=M1) ⟨W3,K2,A1.D,by simp; exact A1.kl,A1.dl,A1.w,A1.rs⟩⟩
  ·rw [if_neg (by simpa using h0)]
   have ee:=kk e hke h0
   subst ee
   refine ⟨e.1,by rw [P1.cell,← U.now.t]; rfl,v.cZ,by rw [Bx2.cell]; rfl,?_⟩
   rw [V.now.t,if_neg (by simp)]
   refine ⟨u.oH,by rw [P1.get]; rfl,v.oH,by rw [Bx2.get]; rfl,?_⟩
   refine JH U2.now.c U2.now.l V2.now.c V2.now.l (by omega) ?_
   unfold kU
   rw [if_neg (by simp)]
   exact done (nx3:=fun _ _=>True) A2
theorem look_ok {k:KP Unit} (W:WAt n O h M R S Ls kn ld) (C:Core n B G R) (K:KI n G kn) (D:DI G ld) (kl:kn.length<=300) (dl:ld.length<=300) (hi:In n i)
  (H:∀ O' h' M' kn' ld',LkI n G R S Ls M h' O' M' kn' ld'->k () h'):lm (some ⟨M.w,0,none⟩) i k h:=by
 obtain ⟨a,ha,i0,i1,cr,_⟩:=W.mr hi
 unfold lm
 refine ⟨_,rfl,M.m,W.c0,a,ha,i0,i1,_,cr,?_⟩
 unfold qM
 refine ⟨fun p h'=>(1<=p/\p<=300)/\∃ O' M' kn' ld',LkI n G R S Ls M h' O' M' kn' ld',fun p _=>(400 - p).toNat,⟨by omega,O,M,kn,ld,W,K,D,kl,dl,rfl,rfl⟩,?_⟩
 rintro p h1 ⟨⟨p1,p2⟩,O1,M1,kn1,ld1,A1⟩
 have Ri:=A1.W.r i hi
 rw [A1.rs] at Ri
 unfold qm
 refine o9 Ri ?_
 by_cases hc:p<=(R i).commit/\p < 300
 ·rw [if_pos (by simpa using hc)]
  refine yS Ri (by omega) fun v h2 ht T X2=>?_
  refine ⟨_,_,rfl,rfl,_,dE.eQ (Blk.push h2 _ _) (by show 2<=2; omega),rfl,?_⟩
  have z2:=X2.size
  have P1:=(Blk.push h2 (ae.cs ⟨0,⟨none,0,0⟩⟩) 65).jZ (vs:=ae.cs v) rfl
  have X:Ext h2.size h2 (aU (h2.push (.cells (ae.cs ⟨0,⟨none,0,0⟩⟩).toArray 65)) ⟨h2.size,0,none⟩ 0 (ae.cs v)):=(Ext.push h2 _ (Nat.le_refl _)).trans (Ext.sets _ _ _ (Nat.le_refl _))
  have A3:=(A1.ext X2).ext X
  have T3:=T.ext X fun g hg=>(T.bd hg).2
  obtain ⟨bb,ebb⟩:∃ c,c=h2.size:=⟨_,rfl⟩
  rw [← ebb] at P1 ⊢
  rw [← ebb] at A3 T3
  generalize aU (h2.push (.cells (ae.cs ⟨0,⟨none,0,0⟩⟩).toArray 65)) ⟨bb,0,none⟩ 0 (ae.cs v)=h3 at *
  have ob:=A1.W.ob
  by_cases he:((R i).entry p).2=0
  ·rw [if_neg (by simpa using he)]
   refine Dp (x:=((R i).entry p).1) A3 C hi p1 hc.2 hc.1 (Prod.ext rfl he) P1 (fun hO=>by have:=ob _ hO; omega) (N7 ht T3 ob) ?_ fun O4 h4 M4 kn4 A4=>⟨⟨by omega,O4,M4,kn4,ld1,A4⟩,by dsimp only; omega⟩
   exact FT Ri.wl p
  ·rw [if_pos (by simpa using he)]
   unfold dx
   refine ⟨_,rfl,?_⟩
   rw [aY (by omega) (by omega)]
   exact ⟨⟨by omega,O1,M1,kn1,ld1,A3⟩,by dsimp only; omega⟩
 ·rw [if_neg (by simpa using hc)]
  refine uD Ri ?_
  by_cases hr:(R i).role=2
  ·rw [if_pos (by simpa using hr)]
   refine sF Ri ?_
   unfold iT
   by_cases ht:(R i).term < 300
   ·rw [if_pos (by simpa using ht)]
    exact Eb A1 C hi hr ht fun O' h' M' ld' A=>H O' h' M' kn1 ld' A
   ·rw [if_neg (by simpa using ht)]
    exact H O1 h1 M1 kn1 ld1 A1
  ·rw [if_neg (by simpa using hr)]
   unfold iT
   rw [if_neg (by simp)]
   exact H O1 h1 M1 kn1 ld1 A1
end
end Go.Q.Yi
end
section
/- What a letter does to a member, case by case. -/
namespace Go.Q.Rf
namespace RS
variable {r:RS} {f:Int} {m:Msg}
/-- as it is in the letter's term -/
def at' (r:RS) (m:Msg):RS:=if m.term > r.term then r.follow m.term (-1) else r
def Ok (r:RS) (f:Int) (m:Msg):Prop:=0<=f/\f < r.n/\f≠r.me/\1<=m.kind/\m.kind<=5
theorem BC (h:¬ Ok r f m):r.take f m=(r,[]):=by
 unfold take; rw [if_pos]; unfold Ok at h; omega
theorem Fp (h:m.term < r.term):r.take f m=(r,[])∨r.take f m=(r,r.late f m):=by
 unfold take
 split
 ·exact .inl rfl
 ·exact .inr rfl
theorem take_at (h:Ok r f m) (ht:r.term<=m.term):r.take f m=(r.at' m).take2 f m:=by
 unfold take at'
 rw [if_neg (by unfold Ok at h; omega),if_neg (by omega)]
 split <;> rfl
theorem Aq (t:Int):(r.aK t).n=r.n/\(r.aK t).me=r.me/\(r.aK t).log=r.log/\(r.aK t).ticks=r.ticks/\(r.aK t).commit=r.commit/\(r.aK t).next=r.next/\(r.aK t).has=r.has/\(r.aK t).role=r.role/\(r.aK t).ballot=r.ballot/\(r.aK t).aQ=r.aQ:=by
 unfold aK fq; split <;> exact ⟨rfl,rfl,rfl,rfl,rfl,rfl,rfl,rfl,rfl,rfl⟩
theorem AU {t:Int} (h:r.term<=t):(r.aK t).term=t:=by
 unfold aK fq; split
 ·rfl
 ·show r.term=t; omega
theorem DJ:(r.at' m).n=r.n/\(r.at' m).me=r.me/\(r.at' m).log=r.log/\(r.at' m).ticks=r.ticks/\(r.at' m).commit=r.commit/\(r.at' m).next=r.next/\(r.at' m).has=r.has/\(r.at' m).aQ=r.aQ:=by
 unfold at'
 split
 ·obtain ⟨a,b,c,d,e,f,g,_,_,k⟩:=Aq (r:=r) m.term
  exact ⟨a,b,c,d,e,f,g,k⟩
 ·exact ⟨rfl,rfl,rfl,rfl,rfl,rfl,rfl,rfl⟩
theorem Aa (h:r.term<=m.term):(r.at' m).term=m.term:=by
 unfold at'
 split
 ·exact AU h
 ·omega
theorem at_new (h:r.term < m.term):(r.at' m).role=0/\(r.at' m).aN=0/\(r.at' m).ballot=none:=by
 unfold at'
 rw [if_pos (by omega)]
 refine ⟨rfl,?_,rfl⟩
 show (r.aK m.term).aN=0
 unfold aK
 rw [if_pos (by omega)]; rfl
theorem l9 (h:r.term=m.term):r.at' m=r:=by
 unfold at'
 rw [if_neg (by omega)]
theorem wO:(r.at' m).role=0∨(r.at' m).role=r.role/\(r.at' m).ballot=r.ballot/\¬ m.term > r.term:=by
 unfold at'
 split
 ·exact .inl rfl
 ·exact .inr ⟨rfl,rfl,by omega⟩
theorem sI:r.settle.n=r.n/\r.settle.me=r.me/\r.settle.log=r.log/\r.settle.ticks=r.ticks/\r.settle.next=r.next/\r.settle.has=r.has/\r.settle.role=r.role/\r.settle.ballot=r.ballot/\r.settle.term=r.term/\r.settle.aN=r.aN/\r.settle.leader=r.leader:=by
 unfold settle; split <;> exact ⟨rfl,rfl,rfl,rfl,rfl,rfl,rfl,rfl,rfl,rfl,rfl⟩
theorem xL (cmd:List Int):(r.put cmd).1.n=r.n/\(r.put cmd).1.me=r.me/\(r.put cmd).1.ticks=r.ticks/\(r.put cmd).1.next=r.next/\(r.put cmd).1.role=r.role/\(r.put cmd).1.ballot=r.ballot/\(r.put cmd).1.term=r.term/\(r.put cmd).1.aN=r.aN:=by
 unfold put
 split
 ·exact ⟨rfl,rfl,rfl,rfl,rfl,rfl,rfl,rfl⟩
 ·obtain ⟨a,b,c,d,e,f,g,h,i,j,k⟩:=sI (r:={ r with log:=(r.log.append r.log.last r.log.lastT [(r.term,cmd)]).1,keeps:=r.keeps ++ [⟨2,r.log.lastT,0,r.log.last,[(r.term,cmd)],[]⟩],has:=r.has.set r.me.toNat (r.log.append r.log.last r.log.lastT [(r.term,cmd)]).2.1 })
  exact ⟨a,b,d,e,g,h,i,j⟩
theorem si (h:r.role≠1∨r.won=false):r.win=(r,[]):=by unfold win; rw [if_pos h]
theorem vz (h:r.role=1) (h2:r.won=true):r.win=((r.lead.put []).1,others (r.lead.put []).1 (due (r.lead.put []).1)):=by
 unfold win; rw [if_neg (by rw [h,h2]; simp)]
/-- the winner -/
theorem AO (h:r.role=1) (h2:r.won=true):r.win.1.role=2/\r.win.1.ticks=0/\r.win.1.term=r.term/\r.win.1.n=r.n/\r.win.1.me=r.me/\r.win.1.aN=r.aN:=by
 rw [vz h h2]
 obtain ⟨a,b,c,d,e,f,g,k⟩:=xL (r:=r.lead) []
 exact ⟨e.trans rfl,c.trans rfl,g.trans rfl,a.trans rfl,b.trans rfl,k.trans rfl⟩
theorem xu:(r.counted f m).n=r.n/\(r.counted f m).me=r.me/\(r.counted f m).log=r.log/\(r.counted f m).ticks=r.ticks/\(r.counted f m).role=r.role/\(r.counted f m).term=r.term/\(r.counted f m).aN=r.aN/\(r.counted f m).commit=r.commit/\(r.counted f m).next=r.next/\(r.counted f m).has=r.has:=by
 unfold counted; split <;> exact ⟨rfl,rfl,rfl,rfl,rfl,rfl,rfl,rfl,rfl,rfl⟩
theorem vH (h:m.yes=false):r.counted f m=r:=by
 unfold counted; rw [if_neg (by rw [h]; simp)]
theorem y9 (h:r.term=m.term):(r.dZ f m).term=m.term/\(r.dZ f m).role=0/\(r.dZ f m).ticks=0/\(r.dZ f m).n=r.n/\(r.dZ f m).me=r.me/\(r.dZ f m).log=r.log/\(r.dZ f m).commit=r.commit/\(r.dZ f m).aN=r.aN:=by
 obtain ⟨a,b,c,d,e,g,k,_,_,l⟩:=Aq (r:=r) m.term
 refine ⟨AU (by omega),rfl,rfl,a,b,c,e,?_⟩
 show (r.aK m.term).aN=r.aN
 unfold aK
 rw [if_neg (by omega)]
/-- the five kinds, in the letter's term -/
theorem tC (h:m.kind=1):r.take2 f m=r.lv f m:=by unfold take2; rw [if_pos h]
theorem wy (h:m.kind=2):r.take2 f m=(r.counted f m).win:=by unfold take2; rw [if_neg (by omega),if_pos h]
theorem BM (h:m.kind=3):r.take2 f m=r.appends f m:=by unfold take2; rw [if_neg (by omega),if_neg (by omega),if_pos h]
theorem yf (h:m.kind=4):r.take2 f m=r.appended f m:=by unfold take2; rw [if_neg (by omega),if_neg (by omega),if_neg (by omega),if_pos h]
theorem Bp (h:m.kind=5):r.take2 f m=r.dK f m:=by unfold take2; rw [if_neg (by omega),if_neg (by omega),if_neg (by omega),if_neg (by omega)]
theorem Ij {y:gQ} (h:y∈r.late f m):y.1=f/\y.2.term=r.term/\y.2.yes=false/\(y.2.kind=2/\m.kind=1∨y.2.kind=4/\(m.kind=3∨m.kind=5)):=by
 unfold late answer at h
 split at h
 ·rw [List.mem_singleton] at h; subst h; rename_i k; exact ⟨rfl,rfl,rfl,.inl ⟨rfl,k⟩⟩
 ·split at h
  ·rw [List.mem_singleton] at h; subst h; rename_i k; exact ⟨rfl,rfl,rfl,.inr ⟨rfl,k⟩⟩
  ·cases h
theorem mK (i:Int):(r.due i).kind=3∨(r.due i).kind=5:=by
 unfold due; split
 ·exact .inr rfl
 ·exact .inl rfl
theorem jC {g:Int->Msg} {y:gQ} (h:y∈r.others g):y.2=g y.1/\0<=y.1/\y.1 < r.n/\y.1≠r.me:=by
 unfold others at h
 obtain ⟨i,hi,rfl⟩:=List.mem_map.1 h
 exact ⟨rfl,uH hi⟩
theorem sW {g:Int->Msg} {i:Int} (h:0<=i/\i < r.n/\i≠r.me):(i,g i)∈r.others g:=by
 unfold others nodes
 refine List.mem_map.2 ⟨i,List.mem_filter.2 ⟨List.mem_map.2 ⟨i.toNat,List.mem_range.2 (by omega),by omega⟩,?_⟩,rfl⟩
 simp; omega
/-- what take2 leaves of a member that is in the letter's term -/
structure T2 (r:RS) (f:Int) (m:Msg) (r':RS) (out:List gQ):Prop where
 term:r'.term=r.term
 n:r'.n=r.n
 me:r'.me=r.me
 tk:r'.ticks=r.ticks∨r'.ticks=0
 /-- nobody asks anew -/
 r1:r'.role=1->r.role=1
 /-- it leads as before, or it won by a letter of this kind -/
 r2:r'.role=2->r.role=2∨r.role=1/\m.kind=2/\(r.counted f m).won=true/\r'.ticks=0/\(∀ i,0<=i/\i < r.n/\i≠r.me->∃ y∈out,y.1=i/\(y.2.kind=3∨y.2.kind=5))
 /-- who led leads on, but for entries -/
 r3:r.role=2->m.kind≠3->m.kind≠5->r'.role=2
 /-- who asked asks on, but for entries, or it leads -/
 r4:r.role=1->m.kind≠3->m.kind≠5->r'.role=1∨r'.role=2
 r5:m.kind=3∨m.kind=5->r'.role=0/\r'.ticks=0
 nw:(r.role=1->r.won=false)->r'.role=1->r'.won=false
 kd:∀ y∈out,(y.2.kind=2/\m.kind=1/\y.1=f)∨(y.2.kind=4/\(m.kind=3∨m.kind=5)/\y.1=f)∨((y.2.kind=3∨y.2.kind=5)/\r'.role=2)
 lg:m.kind≠3->m.kind≠5->r'.role≠2->r'.log=r.log
 vt:m.kind≠1->r'.aN=r.aN
 ln:out.length<=1∨r.role=1/\r'.role=2/\r'.ticks=0/\out.length<=r.nodes.length
 tz:r'.ticks=r.ticks∨m.kind=1/\r.log.newer m.index m.logTerm=true∨m.kind=3∨m.kind=5∨r.role=1/\r'.role=2
 bl:r'.role=1->r'.ballot=if m.kind=2 then (r.counted f m).ballot else r.ballot
 v1:m.kind=1->r.aN≠0->r'.aN=r.aN
theorem DZ {a b:RS} (h:a.ballot=b.ballot) (hn:a.n=b.n):a.won=b.won:=by unfold won; rw [h,hn]
theorem vV (hm:r.term=m.term) (k:1<=m.kind/\m.kind<=5):T2 r f m (r.take2 f m).1 (r.take2 f m).2:=by
 by_cases k1:m.kind=1
 ·rw [tC k1]
  unfold lv
  by_cases c:r.mP f m=true
  ·rw [if_pos c]
   dsimp only
   by_cases v:r.aN=0
   ·rw [if_pos v]
    exact ⟨rfl,rfl,rfl,.inr rfl,fun h=>h,fun h=>.inl h,fun h _ _=>h,fun h _ _=>.inl h,fun h=>absurd h (by omega),fun a b=>a b,fun y hy=>by unfold answer at hy; rw [List.mem_singleton] at hy; subst hy; exact .inl ⟨rfl,k1,rfl⟩,fun _ _ _=>rfl,fun h=>absurd k1 h,.inl (Nat.le_refl 1),.inr (.inl ⟨k1,by unfold mP at c; rw [Bool.and_eq_true] at c; exact c.2⟩),fun _=>by rw [if_neg (by omega)]; rfl,fun _ h=>absurd v h⟩
   ·rw [if_neg v]
    exact ⟨rfl,rfl,rfl,.inr rfl,fun h=>h,fun h=>.inl h,fun h _ _=>h,fun h _ _=>.inl h,fun h=>absurd h (by omega),fun a b=>a b,fun y hy=>by unfold answer at hy; rw [List.mem_singleton] at hy; subst hy; exact .inl ⟨rfl,k1,rfl⟩,fun _ _ _=>rfl,fun h=>absurd k1 h,.inl (Nat.le_refl 1),.inr (.inl ⟨k1,by unfold mP at c; rw [Bool.and_eq_true] at c; exact c.2⟩),fun _=>by rw [if_neg (by omega)],fun _ _=>rfl⟩
  ·rw [if_neg c]
   exact ⟨rfl,rfl,rfl,.inl rfl,fun h=>h,fun h=>.inl h,fun h _ _=>h,fun h _ _=>.inl h,fun h=>absurd h (by omega),fun a b=>a b,fun y hy=>by unfold answer at hy; rw [List.mem_singleton] at hy; subst hy; exact .inl ⟨rfl,k1,rfl⟩,fun _ _ _=>rfl,fun h=>absurd k1 h,.inl (Nat.le_refl 1),.inl rfl,fun _=>by rw [if_neg (by omega)],fun _ _=>rfl⟩
 by_cases k2:m.kind=2
 ·rw [wy k2]
  obtain ⟨cn,cm,cl,ct,cr,cT,cv,_⟩:=xu (r:=r) (f:=f) (m:=m)
  by_cases w:r.role=1/\(r.counted f m).won=true
  ·obtain ⟨e1,e2,e3,e4,e5,e6⟩:=AO (r:=r.counted f m) (by rw [cr]; exact w.1) w.2
   have ey:=vz (r:=r.counted f m) (by rw [cr]; exact w.1) w.2
   refine ⟨e3.trans cT,e4.trans cn,e5.trans cm,.inr e2,fun h=>by rw [e1] at h; omega,fun _=>.inr ⟨w.1,k2,w.2,e2,fun i hi=>?_⟩,fun _ _ _=>e1,fun _ _ _=>.inr e1,fun h=>absurd h (by omega),fun _ h=>by rw [e1] at h; omega,fun y hy=>?_,fun _ _ h=>absurd e1 h,fun _=>e6.trans cv,.inr ⟨w.1,e1,e2,?_⟩,.inr (.inr (.inr (.inr ⟨w.1,e1⟩))),fun h=>by rw [e1] at h; omega,fun h=>absurd h (by omega)⟩
   ·rw [ey]
    obtain ⟨pn,pm,_⟩:=xL (r:=(r.counted f m).lead) []
    have pn':((r.counted f m).lead.put []).1.n=r.n:=pn.trans cn
    have pm':((r.counted f m).lead.put []).1.me=r.me:=pm.trans cm
    exact ⟨_,sW (g:=due ((r.counted f m).lead.put []).1) (i:=i) (by rw [pn',pm']; exact hi),rfl,mK i⟩
   ·rw [ey] at hy
    have:=(jC hy).1
    refine .inr (.inr ⟨?_,e1⟩)
    rw [this]; exact mK _
   ·rw [ey]
    obtain ⟨pn,pm,_⟩:=xL (r:=(r.counted f m).lead) []
    have pn':((r.counted f m).lead.put []).1.n=r.n:=pn.trans cn
    have pm':((r.counted f m).lead.put []).1.me=r.me:=pm.trans cm
    show (others _ _).length<=_
    unfold others nodes
    rw [List.length_map,pn',pm']
    exact Nat.le_refl _
  ·have e:=si (r:=r.counted f m) (by rw [cr]; rw [Decidable.not_and_iff_not_or_not] at w; exact w.imp id fun h=>by simpa using h)
   rw [e]
   refine ⟨cT,cn,cm,.inl ct,fun h=>by rw [← cr]; exact h,fun h=>.inl (by rw [← cr]; exact h),fun h _ _=>cr.trans h,fun h _ _=>.inl (cr.trans h),fun h=>absurd h (by omega),fun _ h=>?_,fun y hy=>(by cases hy),fun _ _ _=>cl,fun _=>cv,.inl (Nat.zero_le 1),.inl ct,fun _=>by rw [if_pos k2],fun h=>absurd h (by omega)⟩
   have hr:r.role=1:=by rw [← cr]; exact h
   cases q:(r.counted f m).won with
   | false=>rfl
   | true=>exact absurd ⟨hr,q⟩ w
 by_cases k3:m.kind=3
 ·rw [BM k3]
  unfold appends mQ
  obtain ⟨f1,f2,f3,f4,f5,f6,f7,f8⟩:=y9 (f:=f) hm
  split
  ·exact ⟨f1.trans hm.symm,f4,f5,.inr f3,fun h=>by rw [f2] at h; omega,fun h=>by rw [f2] at h; omega,fun _ h=>absurd k3 h,fun _ h=>absurd k3 h,fun _=>⟨f2,f3⟩,fun _ h=>by rw [f2] at h; omega,fun y hy=>by unfold answer at hy; rw [List.mem_singleton] at hy; subst hy; exact .inr (.inl ⟨rfl,.inl k3,rfl⟩),fun h=>absurd k3 h,fun _=>f8,.inl (Nat.le_refl 1),.inr (.inr (.inl k3)),fun h=>by rw [f2] at h; omega,fun h=>absurd h (by omega)⟩
  ·exact ⟨f1.trans hm.symm,f4,f5,.inr f3,fun h=>(by have:(r.dZ f m).role=1:=h; omega),fun h=>(by have:(r.dZ f m).role=2:=h; omega),fun _ h=>absurd k3 h,fun _ h=>absurd k3 h,fun _=>⟨f2,f3⟩,fun _ h=>(by have:(r.dZ f m).role=1:=h; omega),fun y hy=>by unfold answer at hy; rw [List.mem_singleton] at hy; subst hy; exact .inr (.inl ⟨rfl,.inl k3,rfl⟩),fun h=>absurd k3 h,fun _=>f8,.inl (Nat.le_refl 1),.inr (.inr (.inl k3)),fun h=>(by have:(r.dZ f m).role=1:=h; omega),fun h=>absurd h (by omega)⟩
 by_cases k4:m.kind=4
 ·rw [yf k4]
  unfold appended
  split
  ·exact ⟨rfl,rfl,rfl,.inl rfl,fun h=>h,fun h=>.inl h,fun h _ _=>h,fun h _ _=>.inl h,fun h=>absurd h (by omega),fun a b=>a b,fun y hy=>(by cases hy),fun _ _ _=>rfl,fun _=>rfl,.inl (Nat.zero_le 1),.inl rfl,fun _=>by rw [if_neg (by omega)],fun h=>absurd h (by omega)⟩
  rename_i c
  have c:=Decidable.not_not.1 c
  split
  ·exact ⟨rfl,rfl,rfl,.inl rfl,fun h=>h,fun h=>.inl h,fun h _ _=>h,fun h _ _=>.inl h,fun h=>absurd h (by omega),fun a b=>a b,fun y hy=>by rw [List.mem_singleton] at hy; subst hy; exact .inr (.inr ⟨mK _,c⟩),fun _ _ _=>rfl,fun _=>rfl,.inl (Nat.le_refl 1),.inl rfl,fun _=>by rw [if_neg (by omega)]; rfl,fun h=>absurd h (by omega)⟩
  split
  ·exact ⟨rfl,rfl,rfl,.inl rfl,fun h=>h,fun h=>.inl h,fun h _ _=>h,fun h _ _=>.inl h,fun h=>absurd h (by omega),fun a b=>a b,fun y hy=>(by cases hy),fun _ _ _=>rfl,fun _=>rfl,.inl (Nat.zero_le 1),.inl rfl,fun _=>by rw [if_neg (by omega)],fun h=>absurd h (by omega)⟩
  obtain ⟨a,b,c1,d,e,g,h,i,j,kk,l⟩:=sI (r:={ r with has:=r.has.set f.toNat (max (r.has.getD f.toNat 0) m.index),next:=r.next.set f.toNat (max (r.next.getD f.toNat 0) (W (m.index + 1))) })
  have fr:(r.gD f m).role=2:=h.trans c
  split
  ·exact ⟨j,a,b,.inl d,fun q=>(by have:(r.gD f m).role=1:=q; omega),fun _=>.inl c,fun _ _ _=>fr,fun _ _ _=>.inr fr,fun h=>absurd h (by omega),fun _ q=>(by have:(r.gD f m).role=1:=q; omega),fun y hy=>by rw [List.mem_singleton] at hy; subst hy; exact .inr (.inr ⟨mK _,fr⟩),fun _ _ q=>absurd fr q,fun _=>kk,.inl (Nat.le_refl 1),.inl d,fun q=>(by have:(r.gD f m).role=1:=q; omega),fun h=>absurd h (by omega)⟩
  ·exact ⟨j,a,b,.inl d,fun q=>(by have:(r.gD f m).role=1:=q; omega),fun _=>.inl c,fun _ _ _=>fr,fun _ _ _=>.inr fr,fun h=>absurd h (by omega),fun _ q=>(by have:(r.gD f m).role=1:=q; omega),fun y hy=>(by cases hy),fun _ _ q=>absurd fr q,fun _=>kk,.inl (Nat.zero_le 1),.inl d,fun q=>(by have:(r.gD f m).role=1:=q; omega),fun h=>absurd h (by omega)⟩
 ·have k5:m.kind=5:=by omega
  rw [Bp k5]
  obtain ⟨f1,f2,f3,f4,f5,f6,f7,f8⟩:=y9 (f:=f) hm
  have ans:∀ y∈(r.dK f m).2,y.2.kind=4/\(m.kind=3∨m.kind=5)/\y.1=f:=fun y hy=>by unfold dK answer at hy; rw [List.mem_singleton] at hy; subst hy; exact ⟨rfl,.inr k5,rfl⟩
  have e:((r.dK f m).1.term=(r.dZ f m).term/\(r.dK f m).1.role=(r.dZ f m).role/\(r.dK f m).1.ticks=(r.dZ f m).ticks/\(r.dK f m).1.n=(r.dZ f m).n/\(r.dK f m).1.me=(r.dZ f m).me/\(r.dK f m).1.aN=(r.dZ f m).aN):=by
   unfold dK lV
   dsimp only
   split <;> exact ⟨rfl,rfl,rfl,rfl,rfl,rfl⟩
  obtain ⟨g1,g2,g3,g4,g5,g6⟩:=e
  rw [f1] at g1; rw [f2] at g2; rw [f3] at g3; rw [f4] at g4; rw [f5] at g5
  exact ⟨g1.trans hm.symm,g4,g5,.inr g3,fun h=>by rw [g2] at h; omega,fun h=>by rw [g2] at h; omega,fun _ _ h=>absurd k5 h,fun _ _ h=>absurd k5 h,fun _=>⟨g2,g3⟩,fun _ h=>by rw [g2] at h; omega,fun y hy=>.inr (.inl (ans y hy)),fun _ h=>absurd k5 h,fun _=>g6.trans f8,.inl (Nat.le_refl 1),.inr (.inr (.inr (.inl k5))),fun h=>by rw [g2] at h; omega,fun h=>absurd h (by omega)⟩
end RS
end Go.Q.Rf
end

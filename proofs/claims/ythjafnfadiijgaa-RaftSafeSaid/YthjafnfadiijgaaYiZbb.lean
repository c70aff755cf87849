/- A part of the proof of statements of this seat: lemmas, no statement of their own. -/
import Derived.Test.YthjafnfadiijgaaYiZba
import Derived.Test.YthjafnfadiijgaaYiZaq
set_option linter.unusedVariables false
set_option linter.unusedSimpArgs false
set_option linter.unusedSectionVars false
set_option maxRecDepth 100000
section
/- What was known, and who led. -/
namespace Go.Q.Yi
open Rf
section
variable [QC] {n:Int} {O O' X:bz} {h h':Heap} {M:MLy} {R:Int->RS} {S:Int->SS} {Ls:List Let} {kn:List Ent} {ld:List Int} {i:Int}
theorem zq (W:WAt n O h M R S Ls kn ld) {k:Heap->Prop} (hl:kn.length<=3000)
  (H:∀ O' h' s',WAt n O' h' { M with kn:=s' } R S Ls (kn ++ [(0,[])]) ld->Go O h O' h'->k h'):App 65 2 32 [.int .u64 0,.slice none 0 0] h M.kn 1 (ae.cs ⟨0,⟨none,0,0⟩⟩) (fun s h'=>∃ h2:Heap,WrH h' ((⟨M.w,0,none⟩:Addr).add 2)/\h2=setH h' ((⟨M.w,0,none⟩:Addr).add 2) (Slc.v s)/\k h2):=by
 have ll:=W.k.len
 obtain ⟨vs,T,e,I⟩:=W.k
 obtain ⟨_,TL,_⟩:=W.l
 refine App.xI T (Nat.zero_le _) rfl rfl (qX (by kernel_rfl)) (by omega) (by simp only [maxLen]; omega) fun s h1 R1 l1 z1 o1 b1 _=>?_
 have S1:Stp (fun g=>M.kn.blk=some g) h h1:=⟨z1,fun g hg hn=>o1 g hg hn⟩
 have sb:∀ g,s.blk=some g->M.kn.blk=some g∨h.size<=g:=fun g hg=>by
  rcases b1 with ⟨b1,_⟩ | b1
  ·exact .inl (by rw [← b1]; exact hg)
  ·rw [b1] at hg; cases hg; exact .inr (Nat.le_refl _)
 have K1:=S1.blk W.w fun e=>T.aW W.w (by decide) e
 obtain ⟨w1,f1⟩:=K1.put (i:=2) (v:=Slc.v s) (by show 2 < 5; omega)
 refine ⟨_,w1,rfl,?_⟩
 obtain ⟨K2,U2⟩:=f1 _ rfl
 generalize setH h1 ((⟨M.w,0,none⟩:Addr).add 2) (Slc.v s)=h2 at *
 have S2:Stp (fun g=>g=M.w) h1 h2:=.dD U2 (.inl rfl)
 have P:Stp (fun g=>g=M.w∨M.kn.blk=some g) h h2:=(S1.mono fun g hg=>.inl (.inr hg)).trans S2 fun g hg=>.inl (.inl hg)
 have hO:∀ g,OB O s g->O g∨h.size<=g:=fun g hg=>hg.elim .inl fun q=>(sb g q).elim (fun q=>.inl (W.ow.k g q)) .inr
 have PO:∀ g,(g=M.w∨M.kn.blk=some g)->O g∨h.size<=g:=fun g hg=>.inl (hg.elim (fun e=>by subst e; exact W.ow.w) (W.ow.k g))
 have ob:∀ g,OB O s g->g < h2.size:=fun g hg=>by
  have:=U2.size; have:=P.size
  exact hg.elim (fun q=>by have:=W.ob g q; omega) fun q=>by have:=(R1.bd q).2; omega
 have PP:=P.mono PO
 have R2:=S2.row R1 fun g hg e=>by subst e; exact R1.aW K1 (by decide) hg
 have KI2:KnI (OB O s) h2 s (kn ++ [(0,[])]):=by
  refine ⟨vs ++ [⟨0,⟨none,0,0⟩⟩],by rw [uM]; exact R2,by simp [e],fun j u y hu hy=>?_⟩
  rcases Nat.lt_or_ge j vs.length with hj | hj
  ·rw [List.getElem?_append_left hj] at hu
   rw [List.getElem?_append_left (by rw [← e]; exact hj)] at hy
   exact (I j u y hu hy).step PP hO
  ·rw [List.getElem?_append_right hj] at hu
   rw [List.getElem?_append_right (by rw [← e]; exact hj),← e] at hy
   have:j - vs.length=0:=by have:=(List.getElem?_eq_some_iff.1 hu).1; simp at this; omega
   rw [this] at hu hy
   simp at hu hy
   subst hu; subst hy
   exact fun _ _=>⟨rfl,nk _,rfl⟩
 refine H (OB O s) h2 s (W.rows (X:=fun g=>g=M.w∨M.kn.blk=some g) P (fun g hg=>hg.elim .inl fun q=>.inr (.inr (.inl q))) ⟨rfl,rfl,rfl,rfl⟩ hO (fun g hg=>.inl hg) ob K2 (W.l.move P PO hO fun g hg e=>?_) KI2 sb (P.row W.d fun g hg e=>?_) ⟨.inl W.ow.w,fun g hg=>.inl (W.ow.m g hg),fun g hg=>.inl (W.ow.l g hg),fun g hg=>.inr hg,fun g hg=>.inl (W.ow.d g hg)⟩) ⟨PP,hO,fun g hg=>.inl hg⟩
 ·rcases e with rfl | e
  ·exact TL.aW W.w (by decide) hg
  ·exact TL.pO T (by decide) hg e
 ·rcases e with rfl | e
  ·exact W.d.aW W.w (by decide) hg
  ·exact W.d.pO T (by decide) hg e
theorem Bd (W:WAt n O h M R S Ls kn ld) {j:Nat} {e:Ent} (he:kn[j]? = some e):∃ a v,M.kn.a=some a/\aD h (a.add (j * 2)) (ae.cs v)/\Imm O h fun h=>oD h v e:=by
 have ll:=W.k.len
 obtain ⟨vs,T,ev,I⟩:=W.k
 obtain ⟨v,hv⟩:∃ v,vs[j]? = some v:=⟨_,List.getElem?_eq_getElem (by rw [ev]; exact (List.getElem?_eq_some_iff.1 he).1)⟩
 obtain ⟨a,ha,c⟩:=(LsAt.qh (cs:=ae.cs) (w:=2) (fun x=>rfl) T.slc (by rw [ll,ev]) (by decide)).at' j v hv
 exact ⟨a,v,ha,c,I j v e hv he⟩
theorem Bp (W:WAt n O h M R S Ls kn ld) {j:Nat} (hj:j < kn.length) {v:ae} {x:Ent} (V:Imm O h fun h=>oD h v x) {a:Addr} (ha:M.kn.a=some a) :
  bZ h (a.add (j * 2)) 2/\WAt n O (aO h (a.add (j * 2)) 0 (ae.cs v)) M R S Ls (kn.set j x) ld/\Go O h O (aO h (a.add (j * 2)) 0 (ae.cs v)):=by
 have ll:=W.k.len
 obtain ⟨vs,T,ev,I⟩:=W.k
 obtain ⟨_,TL,_⟩:=W.l
 obtain ⟨w,R2,_⟩:=Rw.CY (cs:=ae.cs) (w:=2) (fun _=>rfl) T (by rw [ll,ev]) (i:=j) (by rw [ev]; exact hj) v ha
 have hb:M.kn.blk=some a.block:=by simp [Slc.blk,ha]
 have P:Stp (fun g=>M.kn.blk=some g) h (aO h (a.add (j * 2)) 0 (ae.cs v)):=.sets (.inl (by rw [add_block]; exact hb))
 generalize aO h (a.add (j * 2)) 0 (ae.cs v)=h2 at *
 have PO:∀ g,M.kn.blk=some g->O g∨h.size<=g:=fun g hg=>.inl (W.ow.k g hg)
 have PP:=P.mono PO
 refine ⟨w,W.rows (M':=M) (X:=fun g=>M.kn.blk=some g) P (fun g hg=>.inr (.inr (.inl hg))) ⟨rfl,rfl,rfl,rfl⟩ (fun g hg=>.inl hg) (fun g hg=>hg) (fun g hg=>by have:=W.ob g hg; have:=P.size; omega) (P.blk W.w fun e=>T.aW W.w (by decide) e) (W.l.move P PO (fun g hg=>.inl hg) fun g hg e=>TL.pO T (by decide) hg e) ⟨vs.set j v,R2,by simp [ev],fun q u y hu hy=>?_⟩ (fun g hg=>.inl hg) (P.row W.d fun g hg e=>W.d.pO T (by decide) hg e) W.ow,⟨PP,fun g hg=>.inl hg,fun g hg=>hg⟩⟩
 by_cases c:q=j
 ·subst c
  rw [List.getElem?_set_self (by omega)] at hu hy
  cases hu; cases hy
  exact V.stp PP
 ·rw [List.getElem?_set_ne (fun e=>c e.symm)] at hu hy
  exact (I q u y hu hy).stp PP
/-! who led -/
theorem AO (l:List Int):(ins l).length=l.length:=by simp [ins]
theorem DW (W:WAt n O h M R S Ls kn ld):M.ld.len=ld.length:=by
 have:=W.d.len; rw [AO] at this; exact this
theorem yx (W:WAt n O h M R S Ls kn ld) {k:Heap->Prop} (hl:ld.length<=3000)
  (H:∀ O' h' s',WAt n O' h' { M with ld:=s' } R S Ls kn (ld ++ [-1])->Go O h O' h'->k h'):App 3 1 8 [.int .i64 0] h M.ld 1 [.int .i64 (-1)] (fun s h'=>∃ h2:Heap,WrH h' ((⟨M.w,0,none⟩:Addr).add 3)/\h2=setH h' ((⟨M.w,0,none⟩:Addr).add 3) (Slc.v s)/\k h2):=by
 have ll:=DW W
 have T:=W.d
 obtain ⟨_,TL,_⟩:=W.l
 obtain ⟨_,TK,_⟩:=W.k
 refine App.xI T (Nat.zero_le _) rfl rfl (qX (by kernel_rfl)) (by omega) (by simp only [maxLen]; omega) fun s h1 R1 l1 z1 o1 b1 _=>?_
 have S1:Stp (fun g=>M.ld.blk=some g) h h1:=⟨z1,fun g hg hn=>o1 g hg hn⟩
 have sb:∀ g,s.blk=some g->M.ld.blk=some g∨h.size<=g:=fun g hg=>by
  rcases b1 with ⟨b1,_⟩ | b1
  ·exact .inl (by rw [← b1]; exact hg)
  ·rw [b1] at hg; cases hg; exact .inr (Nat.le_refl _)
 have K1:=S1.blk W.w fun e=>T.aW W.w (by decide) e
 obtain ⟨w1,f1⟩:=K1.put (i:=3) (v:=Slc.v s) (by show 3 < 5; omega)
 refine ⟨_,w1,rfl,?_⟩
 obtain ⟨K2,U2⟩:=f1 _ rfl
 generalize setH h1 ((⟨M.w,0,none⟩:Addr).add 3) (Slc.v s)=h2 at *
 have S2:Stp (fun g=>g=M.w) h1 h2:=.dD U2 (.inl rfl)
 have P:Stp (fun g=>g=M.w∨M.ld.blk=some g) h h2:=(S1.mono fun g hg=>.inl (.inr hg)).trans S2 fun g hg=>.inl (.inl hg)
 have hO:∀ g,OB O s g->O g∨h.size<=g:=fun g hg=>hg.elim .inl fun q=>(sb g q).elim (fun q=>.inl (W.ow.d g q)) .inr
 have PO:∀ g,(g=M.w∨M.ld.blk=some g)->O g∨h.size<=g:=fun g hg=>.inl (hg.elim (fun e=>by subst e; exact W.ow.w) (W.ow.d g))
 have ob:∀ g,OB O s g->g < h2.size:=fun g hg=>by
  have:=U2.size; have:=P.size
  exact hg.elim (fun q=>by have:=W.ob g q; omega) fun q=>by have:=(R1.bd q).2; omega
 have PP:=P.mono PO
 have R2:=S2.row R1 fun g hg e=>by subst e; exact R1.aW K1 (by decide) hg
 refine H (OB O s) h2 s (W.rows (X:=fun g=>g=M.w∨M.ld.blk=some g) P (fun g hg=>hg.elim .inl fun q=>.inr (.inr (.inr q))) ⟨rfl,rfl,rfl,rfl⟩ hO (fun g hg=>.inl hg) ob K2 (W.l.move P PO hO fun g hg e=>?_) (W.k.move P PO hO fun g hg e=>?_) (fun g hg=>.inl hg) (by simpa [ins] using R2) ⟨.inl W.ow.w,fun g hg=>.inl (W.ow.m g hg),fun g hg=>.inl (W.ow.l g hg),fun g hg=>.inl (W.ow.k g hg),fun g hg=>.inr hg⟩) ⟨PP,hO,fun g hg=>.inl hg⟩
 ·rcases e with rfl | e
  ·exact TL.aW W.w (by decide) hg
  ·exact TL.pO T (by decide) hg e
 ·rcases e with rfl | e
  ·exact TK.aW W.w (by decide) hg
  ·exact TK.pO T (by decide) hg e
theorem Ae (W:WAt n O h M R S Ls kn ld) {j:Nat} {x:Int} (hx:ld[j]? = some x):∃ a,M.ld.a=some a/\af h (a.add (j * 1))=some (.int .i64 x):=by
 have T:=W.d.slc
 cases ha:M.ld.a with
 | none =>
  have:=T.1 ha
  have e:=congrArg List.length this
  rw [AO] at e
  have:=(List.getElem?_eq_some_iff.1 hx).1
  simp at e
  rw [e] at this
  simp at this
 | some a =>
  refine ⟨a,rfl,?_⟩
  rw [Nat.mul_one]
  exact T.2 a ha j _ (by simp [ins,hx])
theorem zt (W:WAt n O h M R S Ls kn ld) {j:Nat} (hj:j < ld.length) {x:Int} {a:Addr} (ha:M.ld.a=some a) :
  WrH h (a.add (j * 1))/\WAt n O (setH h (a.add (j * 1)) (.int .i64 x)) M R S Ls kn (ld.set j x)/\Go O h O (setH h (a.add (j * 1)) (.int .i64 x)):=by
 have ll:=DW W
 have T:=W.d
 obtain ⟨_,TL,_⟩:=W.l
 obtain ⟨_,TK,_⟩:=W.k
 have hb:M.ld.blk=some a.block:=by simp [Slc.blk,ha]
 have ag:a=⟨a.block,0,none⟩:=by
  rcases T.2.2 with ⟨k,_⟩ | ⟨g,cur,a1,_⟩
  ·rw [k] at ha; cases ha
  ·rw [ha] at a1; cases a1; rfl
 generalize a.block=g at *
 subst ag
 rw [add_mk,Nat.zero_add,Nat.mul_one]
 obtain ⟨w,R2,_⟩:=Rw.sU (v:=.int .i64 x) T ha (j:=j) (by omega)
 have P:Stp (fun g=>M.ld.blk=some g) h (setH h ⟨g,j,none⟩ (.int .i64 x)):=.set (.inl hb)
 generalize setH h ⟨g,j,none⟩ (.int .i64 x)=h2 at *
 have PO:∀ g,M.ld.blk=some g->O g∨h.size<=g:=fun g hg=>.inl (W.ow.d g hg)
 have PP:=P.mono PO
 refine ⟨w,W.rows (M':=M) (X:=fun g=>M.ld.blk=some g) P (fun g hg=>.inr (.inr (.inr hg))) ⟨rfl,rfl,rfl,rfl⟩ (fun g hg=>.inl hg) (fun g hg=>hg) (fun g hg=>by have:=W.ob g hg; have:=P.size; omega) (P.blk W.w fun e=>T.aW W.w (by decide) e) (W.l.move P PO (fun g hg=>.inl hg) fun g hg e=>TL.pO T (by decide) hg e) (W.k.move P PO (fun g hg=>.inl hg) fun g hg e=>TK.pO T (by decide) hg e) (fun g hg=>.inl hg) ?_ W.ow,⟨PP,fun g hg=>.inl hg,fun g hg=>hg⟩⟩
 have:ins (ld.set j x)=(ins ld).set j (.int .i64 x):=by simp [ins,List.map_set]
 rw [this]; exact R2
end
end Go.Q.Yi
end
section
/- A member is looked at. -/
namespace Go.Q.Yi
open Rf
def qJ (h:Heap) (a:Addr):Nat:=match af h a with | some (.slice _ l _)=>1000 - l | _=>0
theorem tN {h:Heap} {a:Addr} {s:Slc} (e:af h a=some (Slc.v s)):qJ h a=1000 - s.len:=by unfold qJ; rw [e]
theorem Bi {r:RS} (w:WL r) (p:Int):(r.entry p).1.2.length<=1099511627776:=by
 unfold RS.entry
 split
 ·show 0<=_; omega
 ·split
  ·show 0<=_; omega
  ·have:∀ x∈(r.log.frm p 1).1,x.2.length<=1099511627776:=fun x hx=>by
    unfold Lg.frm at hx
    split at hx
    ·cases hx
    ·split at hx
     ·cases hx
     ·exact ((w.ok.drop _).take _ x hx).2.2
   split
   ·rename_i x rest e
    exact this x (by rw [e]; exact List.mem_cons_self)
   ·show 0<=_; omega
/-- an entry that was copied anew stays -/
theorem G7 {O:bz} {h h0:Heap} {v:ae} {x:Ent} (ht:v.bP=x.1) (T:Row h0.size h 5 1 v.lS (b8 x.2)) (ob:∀ g,O g->g < h0.size):Imm O h fun h=>oD h v x:=fun h' p=>by
 have T':=p.row T fun g hg hO=>by have:=(T.bd hg).1; have:=ob g hO; omega
 exact ⟨ht,T'.slc,by simpa using T'.len⟩
/-- what a loop over a world carries -/
structure LkI [QC] (n:Int) (G:Gh) (R:Int->RS) (S:Int->SS) (Ls:List Let) (M0:MLy) (h:Heap) (O:bz) (M:MLy) (kn:List Ent) (ld:List Int):Prop where
 W:WAt n O h M R S Ls kn ld
 K:KI n G kn
 D:DI G ld
 kl:kn.length<=300
 dl:ld.length<=300
 w:M.w=M0.w
 rs:M.rs=M0.rs
section
variable [QC] {n:Int} {O:bz} {h:Heap} {M:MLy} {R:Int->RS} {S:Int->SS} {Ls:List Let} {kn:List Ent} {ld:List Int} {i:Int} {G:Gh} {B:Nat}
theorem LkI.ext {M0:MLy} {h':Heap} (A:LkI n G R S Ls M0 h O M kn ld) (X:Ext h.size h h'):LkI n G R S Ls M0 h' O M kn ld:=⟨A.W.ext X,A.K,A.D,A.kl,A.dl,A.w,A.rs⟩
/-- the leader is noted -/
theorem zz {M0:MLy} {k:KP Unit} {nx:KP Int} (A:LkI n G R S Ls M0 h O M kn ld) (C:Core n B G R) (hi:In n i) (h2:(R i).role=2) (t3:(R i).term < 300)
  (H:∀ O' h' M' ld',LkI n G R S Ls M0 h' O' M' kn ld'->k () h'):lU (some ⟨M0.w,0,none⟩) i (some ⟨(M0.rs i).b,0,none⟩) k nx h:=by
 have mi:=C.mi i hi.1 hi.2
 have t0:=mi.t0
 unfold lU
 refine ⟨fun _ h'=>∃ O' M' ld',LkI n G R S Ls M0 h' O' M' kn ld',fun _ h'=>qJ h' ((⟨M0.w,0,none⟩:Addr).add 3),⟨O,M,ld,A⟩,?_⟩
 rintro h1 ⟨O1,M1,ld1,A1⟩
 have W:=A1.W
 have Ri:=W.r i hi
 have c3:af h1 ((⟨M0.w,0,none⟩:Addr).add 3)=some (Slc.v M1.ld):=by rw [← A1.w]; exact W.c 3
 have dl1:=DW W
 rw [A1.rs] at Ri
 unfold nV
 refine ⟨_,rfl,M1.ld,c3,pM Ri ⟨c3,?_⟩⟩
 rw [dl1,aL (x:=(ld1.length:Int)) (by omega) (by have:=A1.dl; omega)]
 by_cases hl:(ld1.length:Int)<=(R i).term
 ·rw [if_pos (by simpa using hl)]
  have X:=Ext.push h1 (.cells ([.int .i64 (-1)]:List Value).toArray 3) (Nat.le_refl _)
  have A2:=A1.ext X
  refine ⟨M1.ld,c3,_,_,rfl,rfl,?_⟩
  generalize h1.push (.cells ([.int .i64 (-1)]:List Value).toArray 3)=h2 at *
  have c3':qJ h1 ((⟨M0.w,0,none⟩:Addr).add 3)=1000 - ld1.length:=by rw [tN c3,dl1]
  have:=yx (k:=fun h'=>(∃ O' M' ld',LkI n G R S Ls M0 h' O' M' kn ld')/\qJ h' ((⟨M0.w,0,none⟩:Addr).add 3) < qJ h1 ((⟨M0.w,0,none⟩:Addr).add 3)) A2.W (by have:=A1.dl; omega) fun O3 h3 s3 W3 G3=>by
   refine ⟨⟨O3,_,_,W3,A1.K,A1.D.more,A1.kl,by simp; omega,A1.w,A1.rs⟩,?_⟩
   have c4:af h3 ((⟨M0.w,0,none⟩:Addr).add 3)=some (Slc.v s3):=by rw [← A1.w]; exact W3.c 3
   have e4:=DW W3
   simp at e4
   rw [tN c4,c3',e4]
   omega
  rw [A1.w] at this
  exact this
 ·rw [if_neg (by simpa using hl)]
  obtain ⟨dk,dk2⟩:=A1.D.look mi hi.1 h2
  obtain ⟨y,hy⟩:∃ y,ld1[(R i).term.toNat]? = some y:=⟨_,List.getElem?_eq_getElem (by omega)⟩
  obtain ⟨a,ha,ca⟩:=Ae W hy
  have j7:ig (some ⟨M0.w,0,none⟩) i (some ⟨(M0.rs i).b,0,none⟩) k nx (fun s h'=>(∃ O' M' ld',LkI n G R S Ls M0 h' O' M' kn ld')/\qJ h' ((⟨M0.w,0,none⟩:Addr).add 3) < qJ h1 ((⟨M0.w,0,none⟩:Addr).add 3)) h1:=by
   unfold ig
   refine ⟨_,rfl,M1.ld,c3,pM Ri ⟨c3,a,ha,t0,by rw [dl1]; omega,?_⟩⟩
   obtain ⟨w,W2,G2⟩:=zt W (j:=(R i).term.toNat) (by omega) (x:=i) ha
   exact ⟨_,w,rfl,H O1 _ M1 _ ⟨W2,A1.K,dk2,A1.kl,by simp; exact A1.dl,A1.w,A1.rs⟩⟩
  refine ⟨M1.ld,c3,pM Ri ⟨c3,a,ha,t0,by rw [dl1]; omega,y,ca,?_⟩⟩
  by_cases hy0:y>=0
  ·rw [if_pos (by simpa using hy0)]
   refine ⟨M1.ld,c3,pM Ri ⟨c3,a,ha,t0,by rw [dl1]; omega,y,ca,?_⟩⟩
   have:=dk y hy hy0
   subst this
   unfold iw
   rw [if_neg (by simp)]
   exact j7
  ·rw [if_neg (by simpa using hy0)]
   unfold iw
   rw [if_neg (by simp)]
   exact j7
/-- an entry that is committed is held against what was known -/
theorem Aa {M0:MLy} {k:KP Unit} {nx:KP Int} {p:Int} {v:ae} {x:Ent} {b:Nat} (A:LkI n G R S Ls M0 h O M kn ld) (C:Core n B G R) (hi:In n i) (p1:1<=p) (p2:p < 300) (pc:p<=(R i).commit) (he:(R i).entry p=(x,0))
  (Bx:Blk h b (ae.cs v) 65) (nb:¬ O b) (V:Imm O h fun h=>oD h v x) (cl:x.2.length<=1099511627776)
  (H:∀ O' h' M' kn',LkI n G R S Ls M0 h' O' M' kn' ld->nx (p + 1) h'):lV (some ⟨M0.w,0,none⟩) i (some ⟨(M0.rs i).b,0,none⟩) p ⟨b,0,none⟩ k nx h:=by
 have mi:=C.mi i hi.1 hi.2
 unfold lV
 refine ⟨fun _ h'=>∃ O' M' kn',LkI n G R S Ls M0 h' O' M' kn' ld/\Blk h' b (ae.cs v) 65/\¬ O' b/\Imm O' h' fun h=>oD h v x,fun _ h'=>qJ h' ((⟨M0.w,0,none⟩:Addr).add 2),⟨O,M,kn,A,Bx,nb,V⟩,?_⟩
 rintro h1 ⟨O1,M1,kn1,A1,Bx,nb,V⟩
 have W:=A1.W
 have c2:af h1 ((⟨M0.w,0,none⟩:Addr).add 2)=some (Slc.v M1.kn):=by rw [← A1.w]; exact W.c 2
 have kl1:=W.k.len
 unfold oo
 refine ⟨_,rfl,M1.kn,c2,?_⟩
 rw [kl1,aL (x:=(kn1.length:Int)) (by omega) (by have:=A1.kl; omega)]
 by_cases hl:(kn1.length:Int) < p
 ·rw [if_pos (by simpa using hl)]
  have X:=Ext.push h1 (.cells (ae.cs ⟨0,⟨none,0,0⟩⟩).toArray 65) (Nat.le_refl _)
  have A2:=A1.ext X
  have Bx2:=Bx.ext X Bx.lt
  have V2:=V.ext X
  refine ⟨M1.kn,c2,_,_,rfl,rfl,?_⟩
  generalize h1.push (.cells (ae.cs ⟨0,⟨none,0,0⟩⟩).toArray 65)=h2 at *
  have c2':qJ h1 ((⟨M0.w,0,none⟩:Addr).add 2)=1000 - kn1.length:=by rw [tN c2,kl1]
  have:=zq (k:=fun h'=>(∃ O' M' kn',LkI n G R S Ls M0 h' O' M' kn' ld/\Blk h' b (ae.cs v) 65/\¬ O' b/\Imm O' h' fun h=>oD h v x)/\qJ h' ((⟨M0.w,0,none⟩:Addr).add 2) < qJ h1 ((⟨M0.w,0,none⟩:Addr).add 2)) A2.W (by have:=A1.kl; omega) fun O3 h3 s3 W3 G3=>by
   refine ⟨⟨O3,_,_,⟨W3,A1.K.more,A1.D,by simp; omega,A1.dl,A1.w,A1.rs⟩,G3.p.blk Bx2 nb,fun hO=>(G3.o b hO).elim nb fun q=>by have:=Bx2.lt; omega,G3.imm V2⟩,?_⟩
   have c4:af h3 ((⟨M0.w,0,none⟩:Addr).add 2)=some (Slc.v s3):=by rw [← A1.w]; exact W3.c 2
   have e4:=W3.k.len
   simp at e4
   rw [tN c4,c2',e4]
   omega
  rw [A1.w] at this
  exact this
 ·rw [if_neg (by simpa using hl)]
  rw [aL (x:=p - 1) (by omega) (by omega)]
  have pt:(p - 1).toNat=p.toNat - 1:=by omega
  obtain ⟨e,hke⟩:∃ e,kn1[(p - 1).toNat]? = some e:=⟨_,List.getElem?_eq_getElem (by omega)⟩
  obtain ⟨a,u,ha,ca,U⟩:=Bd W hke
  obtain ⟨kk,K2⟩:=A1.K.look C.el mi p1 pc he
  rw [← pt] at kk K2
  refine ⟨M1.kn,c2,a,ha,by omega,by rw [kl1]; omega,u,ca,_,_,rfl,rfl,_,bZ.dL (Blk.push h1 _ _) (by show 2<=2; omega),rfl,?_⟩
  have P1:=(Blk.push h1 (ae.cs ⟨0,⟨none,0,0⟩⟩) 65).jN (vs:=ae.cs u) rfl
  have X:Ext h1.size h1 (aO (h1.push (.cells (ae.cs ⟨0,⟨none,0,0⟩⟩).toArray 65)) ⟨h1.size,0,none⟩ 0 (ae.cs u)):=(Ext.push h1 _ (Nat.le_refl _)).trans (Ext.sets _ _ _ (Nat.le_refl _))
  have A2:=A1.ext X
  have Bx2:=Bx.ext X Bx.lt
  have V2:=V.ext X
  have U2:=U.ext X
  obtain ⟨bb,ebb⟩:∃ c,c=h1.size:=⟨_,rfl⟩
  rw [← ebb] at P1 A2 Bx2 V2 U2 ⊢
  generalize aO (h1.push (.cells (ae.cs ⟨0,⟨none,0,0⟩⟩).toArray 65)) ⟨bb,0,none⟩ 0 (ae.cs u)=h2 at *
  have W2:=A2.W
  have c2b:af h2 ((⟨M0.w,0,none⟩:Addr).add 2)=some (Slc.v M1.kn):=by rw [← A1.w]; exact W2.c 2
  have done:∀ {h3:Heap} {O3:bz} {M3:MLy} {kn3:List Ent} {nx3:KP Unit},LkI n G R S Ls M0 h3 O3 M3 kn3 ld->cK (some ⟨M0.w,0,none⟩) i (some ⟨(M0.rs i).b,0,none⟩) p k nx h3:=fun {h3 O3 M3 kn3 nx3} A3=>by
   unfold cK
   refine ⟨_,rfl,?_⟩
   rw [aL (by omega) (by omega)]
   exact H O3 h3 M3 kn3 A3
  refine ⟨u.bP,by rw [P1.cell]; rfl,?_⟩
  rw [U.now.t]
  by_cases h0:e.1=0
  ·rw [if_pos (by simpa using h0)]
   obtain ⟨w,W3,G3⟩:=Bp W2 (j:=(p - 1).toNat) (by omega) V2 ha
   refine ⟨M1.kn,c2b,v,aD.dL Bx2,a,ha,by omega,by rw [kl1]; omega,_,w,rfl,done (nx3:=fun _ _=>True) (O3:=O1) (M3:=M1) ⟨W3,K2,A1.D,by simp; exact A1.kl,A1.dl,A1.w,A1.rs⟩⟩
  ·rw [if_neg (by simpa using h0)]
   have ee:=kk e hke h0
   subst ee
   refine ⟨e.1,by rw [P1.cell,← U.now.t]; rfl,v.bP,by rw [Bx2.cell]; rfl,?_⟩
   rw [V.now.t,if_neg (by simp)]
   refine ⟨u.lS,by rw [P1.get]; rfl,v.lS,by rw [Bx2.get]; rfl,?_⟩
   refine xy U2.now.c U2.now.l V2.now.c V2.now.l (by omega) ?_
   unfold jX
   rw [if_neg (by simp)]
   exact done (nx3:=fun _ _=>True) A2
theorem look_ok {k:KP Unit} (W:WAt n O h M R S Ls kn ld) (C:Core n B G R) (K:KI n G kn) (D:DI G ld) (kl:kn.length<=300) (dl:ld.length<=300) (hi:In n i)
  (H:∀ O' h' M' kn' ld',LkI n G R S Ls M h' O' M' kn' ld'->k () h'):kv (some ⟨M.w,0,none⟩) i k h:=by
 obtain ⟨a,ha,i0,i1,cr,_⟩:=W.mr hi
 unfold kv
 refine ⟨_,rfl,M.m,W.c0,a,ha,i0,i1,_,cr,?_⟩
 unfold oZ
 refine ⟨fun p h'=>(1<=p/\p<=300)/\∃ O' M' kn' ld',LkI n G R S Ls M h' O' M' kn' ld',fun p _=>(400 - p).toNat,⟨by omega,O,M,kn,ld,W,K,D,kl,dl,rfl,rfl⟩,?_⟩
 rintro p h1 ⟨⟨p1,p2⟩,O1,M1,kn1,ld1,A1⟩
 have Ri:=A1.W.r i hi
 rw [A1.rs] at Ri
 unfold oz
 refine pg Ri ?_
 by_cases hc:p<=(R i).commit/\p < 300
 ·rw [if_pos (by simpa using hc)]
  refine sN Ri (by omega) fun v h2 ht T X2=>?_
  refine ⟨_,_,rfl,rfl,_,bZ.dL (Blk.push h2 _ _) (by show 2<=2; omega),rfl,?_⟩
  have z2:=X2.size
  have P1:=(Blk.push h2 (ae.cs ⟨0,⟨none,0,0⟩⟩) 65).jN (vs:=ae.cs v) rfl
  have X:Ext h2.size h2 (aO (h2.push (.cells (ae.cs ⟨0,⟨none,0,0⟩⟩).toArray 65)) ⟨h2.size,0,none⟩ 0 (ae.cs v)):=(Ext.push h2 _ (Nat.le_refl _)).trans (Ext.sets _ _ _ (Nat.le_refl _))
  have A3:=(A1.ext X2).ext X
  have T3:=T.ext X fun g hg=>(T.bd hg).2
  obtain ⟨bb,ebb⟩:∃ c,c=h2.size:=⟨_,rfl⟩
  rw [← ebb] at P1 ⊢
  rw [← ebb] at A3 T3
  generalize aO (h2.push (.cells (ae.cs ⟨0,⟨none,0,0⟩⟩).toArray 65)) ⟨bb,0,none⟩ 0 (ae.cs v)=h3 at *
  have ob:=A1.W.ob
  by_cases he:((R i).entry p).2=0
  ·rw [if_neg (by simpa using he)]
   refine Aa (x:=((R i).entry p).1) A3 C hi p1 hc.2 hc.1 (Prod.ext rfl he) P1 (fun hO=>by have:=ob _ hO; omega) (G7 ht T3 ob) ?_ fun O4 h4 M4 kn4 A4=>⟨⟨by omega,O4,M4,kn4,ld1,A4⟩,by dsimp only; omega⟩
   exact Bi Ri.wl p
  ·rw [if_pos (by simpa using he)]
   unfold cK
   refine ⟨_,rfl,?_⟩
   rw [aL (by omega) (by omega)]
   exact ⟨⟨by omega,O1,M1,kn1,ld1,A3⟩,by dsimp only; omega⟩
 ·rw [if_neg (by simpa using hc)]
  refine vL Ri ?_
  by_cases hr:(R i).role=2
  ·rw [if_pos (by simpa using hr)]
   refine pM Ri ?_
   unfold iq
   by_cases ht:(R i).term < 300
   ·rw [if_pos (by simpa using ht)]
    exact zz A1 C hi hr ht fun O' h' M' ld' A=>H O' h' M' kn1 ld' A
   ·rw [if_neg (by simpa using ht)]
    exact H O1 h1 M1 kn1 ld1 A1
  ·rw [if_neg (by simpa using hr)]
   unfold iq
   rw [if_neg (by simp)]
   exact H O1 h1 M1 kn1 ld1 A1
end
end Go.Q.Yi
end
section
/- What a member is to keep is stored, then its letters go. -/
namespace Go.Q.Yi
open Rf
theorem Dh (S:Int->SS) (i:Int) (a b:SS):sD (sD S i a) i b=sD S i b:=by
 funext k; unfold sD; split <;> rfl
theorem Dy (S:Int->SS) (i:Int):sD S i (S i)=S:=by
 funext k; unfold sD; split
 ·rename_i e; rw [e]
 ·rfl
/-- how a world stands -/
structure Sx [QC] (n:Int) (B T:Nat) (O:bz) (h:Heap) (M:MLy) (R:Int->RS) (S:Int->SS) (Ls:List Let) (kn:List Ent) (ld:List Int):Prop where
 W:WAt n O h M R S Ls kn ld
 G:Wi n B R S Ls kn ld
 ll:Ls.length<=3000
 kl:kn.length<=300
 dl:ld.length<=300
 lw:∀ x∈Ls,WFm x.2.2
 ak:∀ i,In n i->(R i).role=1->∃ l,(R i).ballot=some l
 tk:∀ i,In n i->(R i).ticks<=T
section
variable [QC] {n:Int} {O:bz} {h h':Heap} {M:MLy} {R:Int->RS} {S:Int->SS} {Ls:List Let} {kn:List Ent} {ld:List Int} {i:Int} {B T:Nat}
theorem Ex {h:Heap} {s:Slc} {ks:List aj} (T:Row 0 h 107 6 s (ks.flatMap aj.cs)) {j:Nat} {v:aj} (hv:ks[j]? = some v):∃ a,s.a=some a/\aD h (a.add (j * 6)) (aj.cs v):=by
 have:=T.1
 rw [xO] at this
 exact (LsAt.qh (cs:=aj.cs) (w:=6) (fun _=>rfl) T.slc (by omega) (by decide)).at' j v hv
/-- letters go, as long as there is room -/
theorem xD {out:List lY} {s kslc:Slc} {k:KP Unit} {nx:KP Int} (W:WAt n O h M R S Ls kn ld) (Mo:aJ O h s out) (ol:out.length<=100000) (ll:Ls.length<=3000) (kl:kn.length<=300) (dl:ld.length<=300) (hi:In n i)
  (act:∀ Ls':List Let,(∀ x∈Ls',x∈Ls∨∃ y∈out,x=(i,y.1,y.2))->Wi n B R S Ls' kn ld)
  (lw:∀ x∈Ls,WFm x.2.2) (ow:∀ x∈out,WFm x.2) (ak:∀ i,In n i->(R i).role=1->∃ l,(R i).ballot=some l) (tk:∀ i,In n i->(R i).ticks<=T)
  (H:∀ O' h' M' Ls' kn' ld',Sx n B T O' h' M' R S Ls' kn' ld'->M'.w=M.w->k () h'):lX (some ⟨M.w,0,none⟩) i s 0 k nx h:=by
 unfold lX
 refine ⟨fun j h'=>(0<=j/\j<=out.length)/\∃ O' M' Ls',WAt n O' h' M' R S Ls' kn ld/\aJ O' h' s out/\Ls'.length<=3000/\M'.w=M.w/\∀ x∈Ls',x∈Ls∨∃ y∈out,x=(i,y.1,y.2),fun j _=>(out.length - j).toNat,⟨by omega,O,M,Ls,W,Mo,ll,rfl,fun x hx=>.inl hx⟩,?_⟩
 rintro j h1 ⟨⟨j0,j1⟩,O1,M1,Ls1,W1,Mo1,ll1,ew,sub⟩
 have c1:af h1 ((⟨M.w,0,none⟩:Addr).add 1)=some (Slc.v M1.lt):=by rw [← ew]; exact W1.c 1
 have no:fo (some ⟨M.w,0,none⟩) i s j false k nx (fun j' h'=>((0<=j'/\j'<=out.length)/\∃ O' M' Ls',WAt n O' h' M' R S Ls' kn ld/\aJ O' h' s out/\Ls'.length<=3000/\M'.w=M.w/\∀ x∈Ls',x∈Ls∨∃ y∈out,x=(i,y.1,y.2))/\(out.length - j').toNat < (out.length - j).toNat) h1:=by
  unfold fo
  rw [if_neg (by simp)]
  obtain ⟨G,g⟩:=act Ls1 sub
  have:=look_ok (k:=k) W1 g.core g.kn g.ld kl dl hi fun O' h' M' kn' ld' A=>by
   refine H O' h' M' Ls1 kn' ld' ⟨A.W,⟨G,g.core,g.ls,A.K,A.D,g.sy⟩,ll1,A.kl,A.dl,fun x hx=>?_,ak,tk⟩ (A.w.trans ew)
   rcases sub x hx with q | ⟨y,hy,rfl⟩
   ·exact lw x q
   ·exact ow y hy
  rw [ew] at this
  exact this
 unfold nY
 have sl:=Mo1.len
 by_cases hj:j < (s.len:Int)
 ·rw [if_pos (by simpa using hj)]
  refine ⟨_,rfl,M1.lt,c1,?_⟩
  have lt:=W1.l.len
  by_cases h3:(M1.lt.len:Int) < 3000
  ·rw [show decide ((M1.lt.len:Int) < 3000)=true from by simpa using h3]
   unfold fo
   rw [if_pos rfl]
   obtain ⟨ms,Tm,em,Im⟩:=Mo1.m
   obtain ⟨y,hy⟩:∃ y,out[j.toNat]? = some y:=⟨_,List.getElem?_eq_getElem (by omega)⟩
   obtain ⟨v,hv⟩:∃ v,ms[j.toNat]? = some v:=⟨_,List.getElem?_eq_getElem (by omega)⟩
   obtain ⟨e1,V⟩:=Im _ v y hv hy
   obtain ⟨a,ha,cv⟩:=(LsAt.qh (cs:=aF.cs) (w:=9) (fun _=>rfl) Tm.slc (by omega) (by decide)).at' _ _ hv
   have X:=Ext.push h1 (.cells (ai.cs ⟨i,v.rF,v.f_M⟩).toArray 109) (Nat.le_refl _)
   have W2:=W1.ext X
   have Mo2:=Mo1.ext X
   have V2:=(V.ext X).mono (O':=O1) fun g hg=>.inl (.inl hg)
   refine ⟨_,rfl,M1.lt,c1,a,ha,j0,hj,v.rF,?_,a,ha,j0,hj,v.f_M,?_,_,_,rfl,rfl,?_⟩
   ·have:=cv 0 (.int .i64 v.rF) rfl
    rwa [dI,Nat.add_zero] at this
   ·intro q w hq
    rw [dI,dI,← dI]
    refine cv (1 + q) w ?_
    show ([Value.int .i64 v.rF] ++ ah.cs v.f_M)[1 + q]? = some w
    rw [List.getElem?_append_right (by simp)]
    simpa using hq
   generalize h1.push (.cells (ai.cs ⟨i,v.rF,v.f_M⟩).toArray 109)=h2 at *
   refine ⟨by rw [← ew]; exact W2.c 1,?_⟩
   have:=yN (x:=(i,y.1,y.2)) (v:=⟨i,v.rF,v.f_M⟩) (k:=fun h'=>∃ x,x=IntKind.i64.wrap (j + 1)/\((0<=x/\x<=out.length)/\∃ O' M' Ls',WAt n O' h' M' R S Ls' kn ld/\aJ O' h' s out/\Ls'.length<=3000/\M'.w=M.w/\∀ x∈Ls',x∈Ls∨∃ y∈out,x=(i,y.1,y.2))/\(out.length - x).toNat < (out.length - j).toNat) W2 ⟨rfl,e1,V2⟩ ll1 fun O3 h3 s3 W3 G3=>by
    refine ⟨_,rfl,?_⟩
    rw [ay (by omega) (by omega)]
    refine ⟨⟨by omega,O3,_,_,W3,Mo2.step G3.p (fun g hg=>.inl hg) G3.o,by simp; omega,ew,fun x hx=>?_⟩,by omega⟩
    rcases List.mem_append.1 hx with hx | hx
    ·exact sub x hx
    ·simp at hx
     exact .inr ⟨y,List.mem_of_getElem? hy,hx⟩
   rw [ew] at this
   exact this
  ·rw [show decide ((M1.lt.len:Int) < 3000)=false from by simpa using h3]
   exact no
 ·rw [if_neg (by simpa using hj)]
  exact no
theorem Az {r:RS} {out:List lY} {s:Slc} {k:KP Unit} (W:WAt n O h M (upd R i r) S Ls kn ld) (Mo:aJ O h s out) (ol:out.length<=100000) (ll:Ls.length<=3000) (kl:kn.length<=300) (dl:ld.length<=300) (hi:In n i)
  (sy:kf (S i) r.keeps=some (ofR r)) (kp:Kpt r) (act:∀ Ls':List Let,(∀ x∈Ls',x∈Ls∨∃ y∈out,x=(i,y.1,y.2))->Wi n B (upd R i { r with keeps:=[] }) (sD S i (ofR r)) Ls' kn ld)
  (lw:∀ x∈Ls,WFm x.2.2) (ow:∀ x∈out,WFm x.2) (ak:∀ j,In n j->(upd R i r j).role=1->∃ l,(upd R i r j).ballot=some l) (tk:∀ j,In n j->(upd R i r j).ticks<=T)
  (H:∀ O' h' M' Ls' kn' ld',Sx n B T O' h' M' (upd R i { r with keeps:=[] }) (sD S i (ofR r)) Ls' kn' ld'->M'.w=M.w->k () h'):dH (some ⟨M.w,0,none⟩) i s k h:=by
 obtain ⟨a,ha,i0,i1,cr,_⟩:=W.mr hi
 have Ri:=W.r i hi
 rw [upd_same] at Ri
 unfold dH
 refine ⟨_,rfl,M.m,W.c0,a,ha,i0,i1,_,cr,De Ri fun h1 ks Tk Ik R1 S1=>?_⟩
 have F1:∀ g,own { M.rs i with keeps:=⟨none,0,0⟩ } g->own (M.rs i) g:=fun g hg=>by
  rcases hg with hg | hg | hg | hg | hg | hg | hg
  ·exact .inl hg
  ·exact .inr (.inl hg)
  ·exact .inr (.inr (.inl hg))
  ·exact .inr (.inr (.inr (.inl hg)))
  ·exact .inr (.inr (.inr (.inr (.inl hg))))
  ·simp [Slc.blk] at hg
  ·exact .inr (.inr (.inr (.inr (.inr (.inr hg)))))
 have W1:=W.act hi (r':={ r with keeps:=[] }) (L':={ M.rs i with keeps:=⟨none,0,0⟩ }) (h':=h1) ⟨R1.g,S1.mono fun g hg=>.inl (.inl hg),fun g hg=>.inl (F1 g hg),rfl⟩
 rw [mW] at W1
 have o1:∀ g,Yi.G O { M.rs i with keeps:=⟨none,0,0⟩ } g->O g:=fun g hg=>hg.elim id fun q=>Ri.ow g (F1 g q)
 have Mo1:=Mo.step (O':=Yi.G O { M.rs i with keeps:=⟨none,0,0⟩ }) S1 (fun g hg=>.inl (by subst hg; exact Ri.Ob)) fun g hg=>.inl (o1 g hg)
 have Ik1:=Ik.mono (O':=Yi.G O { M.rs i with keeps:=⟨none,0,0⟩ }) fun g hg=>.inl (o1 g hg)
 generalize Yi.G O { M.rs i with keeps:=⟨none,0,0⟩ } = O1 at *
 obtain ⟨M1,eM⟩:∃ M1,M1=vW M i { M.rs i with keeps:=⟨none,0,0⟩ }:=⟨_,rfl⟩
 rw [← eM] at W1
 have ew:M1.w=M.w:=by rw [eM]; rfl
 generalize (M.rs i).keeps=kslc at *
 have ksl:ks.length=r.keeps.length:=Ik1.now.1
 have ksn:kslc.len=ks.length:=by have:=Tk.1; rw [xO] at this; omega
 unfold oN
 refine ⟨fun j h'=>(0<=j/\j<=r.keeps.length)/\∃ O' M' sj,WAt n O' h' M' (upd R i { r with keeps:=[] }) (sD S i sj) Ls kn ld/\aJ O' h' s out/\Row 0 h' 107 6 kslc (ks.flatMap aj.cs)/\Imm O' h' (fun h=>uU h ks r.keeps)/\M'.w=M.w/\kf sj (r.keeps.drop j.toNat)=some (ofR r),fun j _=>(r.keeps.length - j).toNat,⟨by omega,O1,M1,S i,by rw [Dy]; exact W1,Mo1,Tk,Ik1,ew,sy⟩,?_⟩
 rintro j h2 ⟨⟨j0,j1⟩,O2,M2,sj,W2,Mo2,Tk2,Ik2,ew2,kj⟩
 unfold om
 by_cases hj:j < (kslc.len:Int)
 ·rw [if_pos (by simpa using hj)]
  obtain ⟨a2,ha2,q0,q1,_,cs2⟩:=W2.mr hi
  obtain ⟨x,hx⟩:∃ x,r.keeps[j.toNat]? = some x:=⟨_,List.getElem?_eq_getElem (by omega)⟩
  obtain ⟨v,hv⟩:∃ v,ks[j.toNat]? = some v:=⟨_,List.getElem?_eq_getElem (by omega)⟩
  obtain ⟨a3,ha3,cv⟩:=Ex Tk2 hv
  have hd:r.keeps.drop j.toNat=x :: r.keeps.drop (j.toNat + 1):=by
   rw [List.drop_eq_getElem?_toList_append,hx]; rfl
  rw [hd] at kj
  have kj2:(match nC sj x with | some s'=>kf s' (r.keeps.drop (j.toNat + 1)) | none=>none)=some (ofR r):=kj
  obtain ⟨s',hs'⟩:∃ s',nC sj x=some s':=by
   cases hh:nC sj x with
   | none=>rw [hh] at kj2; cases kj2
   | some s'=>exact ⟨s',rfl⟩
  rw [hs'] at kj2
  have Si:=W2.s i hi
  have eS:sD S i sj i=sj:=if_pos rfl
  rw [eS] at Si
  refine ⟨_,rfl,M2.m,by rw [← ew2]; exact W2.c0,a2,ha2,q0,q1,_,cs2,a3,ha3,j0,hj,v,cv,?_⟩
  refine Eb Si W2.ob (Ik2.imp fun _ q=>q.2 _ v x hv hx) (kp x (List.mem_of_getElem? hx)) hs' fun h3 L3 A3 e1 e2 e3 S3=>?_
  rw [if_neg (by simp)]
  have W3:=W2.keep hi A3 e1 e2 e3 S3
  rw [Dh] at W3
  have hX:∀ g,nK (M2.ss i) g->O2 g∨h2.size<=g:=fun g hg=>.inl (hg.elim (fun e=>by subst e; exact Si.ob) fun e=>by subst e; exact Si.l.ob)
  have hO:∀ g,(O2 g∨g=L3.lb)->O2 g∨h2.size<=g:=fun g hg=>hg.elim .inl fun e=>by
   subst e
   exact e2.elim (fun e=>.inl (by rw [e]; exact Si.l.ob)) .inr
  unfold jY
  refine ⟨_,rfl,?_⟩
  rw [ay (by omega) (by have:=Ri.wf.kp; omega)]
  exact ⟨⟨by omega,_,_,s',W3,Mo2.step S3 hX hO,S3.row Tk2 (W2.tu hi Tk2 (by decide)),Ik2.step (S3.mono hX) hO,ew2,by rw [show (j + 1).toNat=j.toNat + 1 from by omega]; exact kj2⟩,by dsimp only; omega⟩
 ·rw [if_neg (by simpa using hj)]
  have hjn:j.toNat=r.keeps.length:=by omega
  rw [hjn,List.drop_length] at kj
  have es:sj=ofR r:=Option.some.inj kj
  subst es
  have:=xD (kslc:=kslc) (T:=T) (B:=B) (k:=k) (nx:=fun q h'=>((0<=q/\q<=r.keeps.length)/\∃ O' M' sj,WAt n O' h' M' (upd R i { r with keeps:=[] }) (sD S i sj) Ls kn ld/\aJ O' h' s out/\Row 0 h' 107 6 kslc (ks.flatMap aj.cs)/\Imm O' h' (fun h=>uU h ks r.keeps)/\M'.w=M.w/\kf sj (r.keeps.drop q.toNat)=some (ofR r))/\(r.keeps.length - q).toNat < (r.keeps.length - j).toNat) W2 Mo2 ol ll kl dl hi act lw ow (fun j hj hr=>?_) (fun j hj=>?_) fun O' h' M' Ls' kn' ld' A e=>H O' h' M' Ls' kn' ld' A (e.trans ew2)
  ·rw [ew2] at this
   exact this
  ·by_cases c:j=i
   ·subst c
    have:=ak j hj
    rw [upd_same] at this hr ⊢
    exact this hr
   ·have:=ak j hj
    rw [dw c] at this hr ⊢
    exact this hr
  ·by_cases c:j=i
   ·subst c
    have:=tk j hj
    rw [upd_same] at this ⊢
    exact this
   ·have:=tk j hj
    rw [dw c] at this ⊢
    exact this
end
end Go.Q.Yi
end
section
/- Blocks laid and filled at once; items of slices of structs. -/
namespace Go.Q
/-- a block that is laid and filled -/
theorem bx {cs z:List Value} {E n:Nat} {h:Heap} {K:Nat->Heap->Prop} (hl:cs.length=z.length) (hn:n<=z.length) (H:∀ h',Blk h' h.size cs E->Ext h.size h h'->K h.size h') :
  ∃ (b:Nat) (h2:Heap),b=h.size/\h2=h.push (.cells z.toArray E)/\(∃ h3:Heap,bZ h2 (⟨b,0,none⟩:Addr) n/\h3=aO h2 (⟨b,0,none⟩:Addr) 0 cs/\K b h3) :=
 have P:=Blk.push h z E
 ⟨_,_,rfl,rfl,_,bZ.dL P hn,rfl,H _ (P.jN hl) ((Ext.push h _ (Nat.le_refl _)).trans (Ext.sets _ 0 cs (by show h.size<=h.size; exact Nat.le_refl _)))⟩
section
variable {α:Type} {cs:α->List Value} {w:Nat} {h:Heap} {s:Slc} {xs:List α}
/-- an item of a slice -/
theorem LsAt.it (L:LsAt cs w h s xs) {i:Int} (h0:0<=i) (h1:i < (xs.length:Int)):∃ (a:Addr) (x:α),s.a=some a/\(0:Int)<=i/\i < (s.len:Int)/\xs[i.toNat]? = some x/\aD h (a.add (i.toNat * w)) (cs x):=by
 obtain ⟨x,hx⟩:∃ x,xs[i.toNat]? = some x:=⟨_,List.getElem?_eq_getElem (by omega)⟩
 obtain ⟨a,ha,hc⟩:=L.at' _ _ hx
 exact ⟨a,x,ha,h0,by rw [L.l]; exact h1,hx,hc⟩
end
/-- a part of a slice of structs -/
theorem LsAt.sub {α:Type} {cs:α->List Value} {w:Nat} {h:Heap} {s:Slc} {xs:List α} (L:LsAt cs w h s xs) {a b m:Nat} (h1:a<=b) (h2:b<=s.len) (h3:b<=m):LsAt cs w h (dC s w a b m) ((xs.take b).drop a):=by
 have hl:=L.l
 refine ⟨by simp only [dC,List.length_drop,List.length_take]; omega,fun i x hx=>?_⟩
 rw [List.getElem?_drop,List.getElem?_take] at hx
 split at hx
 ·obtain ⟨a',ha,hc⟩:=L.at' _ _ hx
  refine ⟨a'.add (a * w),?_,?_⟩
  ·simp only [dC]
   rw [if_neg (by omega),ha]; rfl
  ·rw [show (a'.add (a * w)).add (i * w)=a'.add ((a + i) * w) from by rw [Rw.dI,Nat.add_mul]]; exact hc
 ·cases hx
/-- an append to one of two rows of one's own -/
theorem wh {B E w E2 w2 bytes:Nat} {z:List Value} {h:Heap} {s t:Slc} {m:Nat} {news xs ys:List Value} {k:Slc->Heap->Prop} (r:Row B h E w s xs) (r2:Row B h E2 w2 t ys) (dj:∀ g,s.blk=some g->t.blk≠some g) (hB:B<=h.size) (hz:z.length=w) (hl:news.length=m * w) (h1:∀ v∈news,v.oneCell'=true)
  (hb:(s.len + m) * bytes<=140737488355328) (hm:s.len + m<=maxLen)
  (H:∀ s' h',Row B h' E w s' (xs ++ news)->s'.len=s.len + m->Row B h' E2 w2 t ys->(∀ g,s'.blk=some g->t.blk≠some g)->Ext B h h'->k s' h'):App E w bytes z h s m news k :=
 App.row r hB hz hl h1 hb hm fun s' h' a b c d e=>H s' h' a b (r2.keep fun g hg=>d g (r2.bd hg).2 fun e2=>dj g e2 hg)
  (fun g hg ht=>by
   rcases e with e | e
   ·exact dj g (e ▸ hg) ht
   ·rw [e] at hg; cases hg; exact Nat.lt_irrefl _ (r2.bd ht).2)
  ⟨c,fun i hi=>d i (Nat.lt_of_lt_of_le hi hB) fun e=>Nat.lt_irrefl _ (Nat.lt_of_lt_of_le hi (r.bd e).1)⟩
/-- the cells of a slice of structs -/
theorem LsAt.FP {α:Type} {cs:α->List Value} {w:Nat} (hc:∀ x,(cs x).length=w) (hw:0 < w) {h:Heap} {s:Slc} {xs:List α} (L:LsAt cs w h s xs):SlcAt h s (xs.flatMap cs):=by
 refine ⟨fun hn=>?_,fun a ha j v hj=>?_⟩
 ·cases xs with
  | nil=>rfl
  | cons x r=>obtain ⟨a,ha,_⟩:=L.at' 0 x rfl; rw [hn] at ha; cases ha
 ·have hl:j < (xs.flatMap cs).length:=(List.getElem?_eq_some_iff.1 hj).1
  rw [Rw.qg hc] at hl
  have h1:j / w < xs.length:=(Nat.div_lt_iff_lt_mul hw).2 hl
  have dm:j / w * w + j % w=j:=by rw [Nat.mul_comm]; exact Nat.div_add_mod j w
  have e:=Rw.si hc xs (j / w) (j % w) (Nat.mod_lt _ hw)
  rw [dm,hj] at e
  obtain ⟨x,hx⟩:∃ x,xs[j / w]? = some x:=⟨_,List.getElem?_eq_getElem h1⟩
  rw [hx] at e
  obtain ⟨a',ha',hc2⟩:=L.at' _ _ hx
  rw [ha] at ha'; cases ha'
  have:=hc2 (j % w) v e.symm
  rwa [Rw.dI,dm] at this
end Go.Q
end
section
/- The acts. -/
namespace Go.Q.Yi
open Rf
theorem Ea {r:RS}:∀ x∈r.tick.2,0<=x.1/\x.1 < r.n:=by
 unfold RS.tick
 split
 ·exact fun x hx=>by
   have:=(RS.tY (r:={ r with ticks:=r.ticks + 1 }) (RS.due { r with ticks:=r.ticks + 1 }) (fun i=>RS.tJ i) x hx).1
   exact ⟨this.1,this.2.1⟩
 ·split
  ·unfold RS.iA
   split
   ·exact fun x hx=>by cases hx
   ·intro x hx
    rcases List.mem_append.1 hx with hx | hx
    ·have:=(RS.tY (r:=RS.asks { r with ticks:=r.ticks + 1 }) _ (fun i=>rfl) x hx).1
     exact ⟨this.1,this.2.1⟩
    ·have:=(RS.BG (r:=RS.asks { r with ticks:=r.ticks + 1 }) x hx).1
     exact ⟨this.1,this.2.1⟩
  ·exact fun x hx=>by cases hx
theorem Cu {r:RS} (n32:r.n<=32):r.tick.2.length<=1000:=by
 unfold RS.tick
 split
 ·have:=qF { r with ticks:=r.ticks + 1 } (RS.due { r with ticks:=r.ticks + 1 })
  have e:({ r with ticks:=r.ticks + 1 }:RS).n=r.n:=rfl
  dsimp only
  omega
 ·split
  ·unfold RS.iA
   split
   ·show 0<=1000; omega
   ·rw [List.length_append]
    have a:=qF (RS.asks { r with ticks:=r.ticks + 1 }) (fun _=>⟨1,(RS.asks { r with ticks:=r.ticks + 1 }).term,r.log.last,r.log.lastT,0,false,[],[]⟩)
    have b:=Ag (r:=RS.asks { r with ticks:=r.ticks + 1 })
    have e:(RS.asks { r with ticks:=r.ticks + 1 }).n=r.n:=rfl
    rw [e] at a b
    dsimp only at a b ⊢
    omega
  ·show 0<=1000; omega
section
variable [QC] {n:Int} {O:bz} {h h':Heap} {M:MLy} {R:Int->RS} {S:Int->SS} {Ls:List Let} {kn:List Ent} {ld:List Int} {i:Int} {B T B':Nat}
theorem Sx.post {r':RS} {L':RLy} {out:List lY} {s:Slc} {k:KP Unit} (A:Sx n B T O h M R S Ls kn ld) (hi:In n i) (q:Res O h (M.rs i) r' h' L') (Mo:aJ (Yi.G O L') h' s out) (ol:out.length<=100000) (hB:B<=B') (hB':B'<=100000)
  (gh:∀ G,WG n B G R S Ls kn ld->∃ G',Core n B' G' (upd R i r')/\Pst n G G'/\Lts n B' G' i out) (to:∀ x∈out,0<=x.1/\x.1 < n) (sy:Sy (S i) r') (kp:Kpt r') (ow:∀ x∈out,WFm x.2) (ak:r'.role=1->∃ l,r'.ballot=some l) (tk:r'.ticks<=T + 1)
  (H:∀ O' h' M' R' S' Ls' kn' ld',Sx n B' (T + 1) O' h' M' R' S' Ls' kn' ld'->M'.w=M.w->k () h'):dH (some ⟨M.w,0,none⟩) i s k h':=by
 obtain ⟨G,g⟩:=A.G
 refine Az (M:=vW M i L') (B:=B') (T:=T + 1) (A.W.act hi q) Mo ol A.ll A.kl A.dl hi sy kp (fun Ls' sub=>g.act hi.1 hi.2 hB hB' (gh G g) to sub) A.lw ow (fun j hj hr=>?_) (fun j hj=>?_) fun O' h' M' Ls' kn' ld' A' e=>H O' h' M' _ _ Ls' kn' ld' A' e
 ·by_cases c:j=i
  ·subst c; rw [upd_same] at hr ⊢; exact ak hr
  ·rw [dw c] at hr ⊢; exact A.ak j hj hr
 ·by_cases c:j=i
  ·subst c; rw [upd_same]; exact tk
  ·rw [dw c]; have:=A.tk j hj; omega
theorem Sx.lok (A:Sx n B T O h M R S Ls kn ld) (hB:B<=100000) (hi:In n i):lok (R i).log:=by
 obtain ⟨G,g⟩:=A.G
 have m:=g.core.mi i hi.1 hi.2
 have:=m.rep.last
 have:=m.bf
 unfold Yi.lok
 omega
theorem Sx.k0 (A:Sx n B T O h M R S Ls kn ld) (hi:In n i):(R i).keeps=[]:=by
 obtain ⟨G,g⟩:=A.G
 exact (g.sy i hi.1 hi.2).2
theorem Sx.kp (A:Sx n B T O h M R S Ls kn ld) (hi:In n i):Kpt (R i):=fun k hk=>by rw [A.k0 hi] at hk; cases hk
theorem Sx.sy (A:Sx n B T O h M R S Ls kn ld) (hi:In n i):Sy (S i) (R i):=by
 obtain ⟨G,g⟩:=A.G
 exact g.syi hi.1 hi.2
theorem Sx.rn (A:Sx n B T O h M R S Ls kn ld) (hi:In n i):(R i).n=n:=by
 obtain ⟨G,g⟩:=A.G
 exact (g.core.mi i hi.1 hi.2).rn
theorem Sx.ext (A:Sx n B T O h M R S Ls kn ld) (X:Ext h.size h h'):Sx n B T O h' M R S Ls kn ld:=⟨A.W.ext X,A.G,A.ll,A.kl,A.dl,A.lw,A.ak,A.tk⟩
theorem Sx.fewer (A:Sx n B T O h M R S Ls kn ld) {O':bz} {h':Heap} {M':MLy} {Ls':List Let} (W:WAt n O' h' M' R S Ls' kn ld) (sub:∀ x∈Ls',x∈Ls) (hl:Ls'.length<=Ls.length):Sx n B T O' h' M' R S Ls' kn ld:=by
 obtain ⟨G,g⟩:=A.G
 exact ⟨W,⟨G,g.core,g.ls.sub sub,g.kn,g.ld,g.sy⟩,by have:=A.ll; omega,A.kl,A.dl,fun x hx=>A.lw x (sub x hx),A.ak,A.tk⟩
/-- a letter is taken away -/
theorem vH {p:Int} {k:Heap->Prop} (A:Sx n B T O h M R S Ls kn ld) (p0:0<=p) (p1:p < Ls.length)
  (H:∀ O' h' s',Sx n B T O' h' { M with lt:=s' } R S (Ls.eraseIdx p.toNat) kn ld->Go O h O' h'->k h') :
  (∃ v65:Slc,af h ((⟨M.w,0,none⟩:Addr).add 1)=some (Slc.v v65)/\(∃ s66:Slc,(0:Int)<=0/\(0:Int)<=p/\(p:Int)<=(v65.cap:Int)/\(v65.cap:Int)<=(v65.cap:Int)/\s66=dC v65 10 (0:Int).toNat p.toNat (v65.cap:Int).toNat/\(∃ v67:Slc,af h ((⟨M.w,0,none⟩:Addr).add 1)=some (Slc.v v67)/\(∃ s68:Slc,(0:Int)<=(IntKind.i64.wrap (p + 1))/\((IntKind.i64.wrap (p + 1)):Int)<=(v67.len:Int)/\((v67.len:Int):Int)<=(v67.cap:Int)/\(v67.cap:Int)<=(v67.cap:Int)/\s68=dC v67 10 (IntKind.i64.wrap (p + 1)).toNat (v67.len:Int).toNat (v67.cap:Int).toNat/\(∃ (b69:Nat) (h70:Heap),b69=h.size/\h70=h.push (.cells ([]).toArray 109)/\(af h70 ((⟨M.w,0,none⟩:Addr).add 1)=some (Slc.v v67)/\af h70 ((⟨M.w,0,none⟩:Addr).add 1)=some (Slc.v v65)/\(∃ l75:List Value,SlcAt h70 s66 l75/\App 109 10 112 [.int .i64 0,.int .i64 0,.int .i64 0,.int .u64 0,.int .u64 0,.int .u64 0,.int .u64 0,.bool false,.slice none 0 0,.slice none 0 0] h70 (⟨some ⟨b69,0,none⟩,0,0⟩:Slc) s66.len l75 (fun s73 h74=>af h74 ((⟨M.w,0,none⟩:Addr).add 1)=some (Slc.v v67)/\(∃ l79:List Value,SlcAt h74 s68 l79/\App 109 10 112 [.int .i64 0,.int .i64 0,.int .i64 0,.int .u64 0,.int .u64 0,.int .u64 0,.int .u64 0,.bool false,.slice none 0 0,.slice none 0 0] h74 s73 s68.len l79 (fun s77 h78=>∃ h80:Heap,WrH h78 ((⟨M.w,0,none⟩:Addr).add 1)/\h80=setH h78 ((⟨M.w,0,none⟩:Addr).add 1) (Slc.v s77)/\(k h80))))))))))):=by
 have W:=A.W
 have ll:=A.ll
 have ltl:=W.l.len
 obtain ⟨ls,T0,e,I⟩:=id W.l
 have cap:=T0.cap
 have lsl:M.lt.len=ls.length:=by omega
 have Lt:=LsAt.qh (cs:=ai.cs) (w:=10) (fun _=>rfl) T0.slc lsl (by decide)
 have c1:=W.c 1
 rw [ay (x:=p + 1) (by omega) (by omega)]
 refine ⟨M.lt,c1,_,by omega,by omega,by omega,by omega,rfl,M.lt,c1,_,by omega,by omega,by omega,by omega,rfl,?_⟩
 have LA:=Lt.sub (a:=(0:Int).toNat) (b:=p.toNat) (m:=(M.lt.cap:Int).toNat) (by show 0<=_; omega) (by omega) (by omega)
 have LB:=Lt.sub (a:=(p + 1).toNat) (b:=(M.lt.len:Int).toNat) (m:=(M.lt.cap:Int).toNat) (by omega) (by omega) (by omega)
 generalize dC M.lt 10 (0:Int).toNat p.toNat (M.lt.cap:Int).toNat=sa at LA ⊢
 generalize dC M.lt 10 (p + 1).toNat (M.lt.len:Int).toNat (M.lt.cap:Int).toNat=sb at LB ⊢
 rw [show (ls.take p.toNat).drop (0:Int).toNat=ls.take p.toNat from rfl] at LA
 rw [show (ls.take (M.lt.len:Int).toNat)=ls from List.take_of_length_le (by omega),show (p + 1).toNat=p.toNat + 1 from by omega] at LB
 have one:∀ l:List ai,∀ v∈l.flatMap ai.cs,v.oneCell'=true:=fun l v hv=>by
  obtain ⟨x,_,hx⟩:=List.mem_flatMap.1 hv
  exact qX (l:=ai.cs x) (by simp [ai.cs,ah.cs,Value.oneCell']) v hx
 have fl:∀ l:List ai,(l.flatMap ai.cs).length=l.length * 10:=fun l=>qg (w:=10) (fun _=>rfl) l
 have X0:=Ext.push h (.cells ([]:List Value).toArray 109) (Nat.le_refl _)
 have W0:=W.ext X0
 have R0:Row h.size (h.push (.cells ([]:List Value).toArray 109)) 109 10 ⟨some ⟨h.size,0,none⟩,0,0⟩ [] :=
  ⟨by simp,by simp [maxLen],.inr ⟨h.size,[],rfl,Nat.le_refl _,Blk.push _ _ _,Nat.le_refl _,by simp,by simp⟩⟩
 refine ⟨_,_,rfl,rfl,W0.c 1,W0.c 1,_,(LA.FP (w:=10) (fun _=>rfl) (by decide)).ext X0,?_⟩
 have la:=LA.l
 have lb:=LB.l
 have la':sa.len<=3000:=by rw [la,List.length_take]; omega
 have lb':sb.len<=3000:=by rw [lb,List.length_drop]; omega
 have SB0:=(LB.FP (w:=10) (fun _=>rfl) (by decide)).ext X0
 generalize h.push (.cells ([]:List Value).toArray 109)=h0 at *
 have z0:=X0.size
 refine App.row R0 z0 rfl (by rw [fl,la]) (one _) (by simp only; omega) (by simp only [maxLen]; omega) fun s1 h1 R1 l1 z1 o1 b1=>?_
 simp only [List.nil_append,Nat.zero_add] at R1 l1
 have X1:Ext h0.size h0 h1∨True:=.inr trivial
 have E1:Ext h.size h h1:=X0.trans ⟨by omega,fun g hg=>o1 g (by omega) fun e=>by simp [Slc.blk] at e; omega⟩
 have W1:=W.ext E1
 have SB1:SlcAt h1 sb ((ls.drop (p.toNat + 1)).flatMap ai.cs):=(LB.FP (w:=10) (fun _=>rfl) (by decide)).ext E1
 refine ⟨W1.c 1,_,SB1,?_⟩
 refine App.row R1 (by omega) rfl (by rw [fl,lb]) (one _) (by omega) (by simp only [maxLen]; omega) fun s2 h2 R2 l2 z2 o2 b2=>?_
 have E2:Ext h.size h h2:=E1.trans ⟨by have:=E1.size; omega,fun g hg=>o2 g (by have:=E1.size; omega) fun e=>by have:=(R1.bd e).1; omega⟩
 rw [← List.flatMap_append,← List.eraseIdx_eq_take_drop_succ] at R2
 have sb2:∀ g,s2.blk=some g->h.size<=g:=fun g hg=>(R2.bd hg).1
 refine Ch W (Stp.bi E2) (fun g hg=>.inr (sb2 g hg)) (Ls':=Ls.eraseIdx p.toNat) ⟨ls.eraseIdx p.toNat,R2.mono (Nat.zero_le _),by rw [List.length_eraseIdx,List.length_eraseIdx,e],fun j u y hu hy=>?_⟩ (fun g hg=>(R2.bd hg).2) fun O' h' W' G=>H O' h' s2 (A.fewer W' (fun x hx=>List.mem_of_mem_eraseIdx hx) (by rw [List.length_eraseIdx]; split <;> omega)) G
 rw [List.getElem?_eraseIdx] at hu hy
 have st:∀ {v:ai} {x:Let},(v.qW=x.1/\v.zG=x.2.1/\Imm O h fun h=>rH h v.f_M x.2.2)->v.qW=x.1/\v.zG=x.2.1/\Imm (OB O s2) h2 fun h=>rH h v.f_M x.2.2:=fun q=>⟨q.1,q.2.1,q.2.2.step (Stp.bi E2) fun g hg=>hg.elim .inl fun q=>.inr (sb2 g q)⟩
 split at hu
 ·rename_i c
  rw [if_pos c] at hy
  exact st (I j u y hu hy)
 ·rename_i c
  rw [if_neg c] at hy
  exact st (I (j + 1) u y hu hy)
end
end Go.Q.Yi
end

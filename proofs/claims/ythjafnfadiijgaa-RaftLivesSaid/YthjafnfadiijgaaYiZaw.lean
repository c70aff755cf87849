/- A part of the proof of statements of this seat: lemmas, no statement of their own. -/
import Derived.Test.YthjafnfadiijgaaYiZav
import Derived.Test.YthjafnfadiijgaaYiZar
set_option linter.unusedVariables false
set_option linter.unusedSimpArgs false
set_option maxRecDepth 100000
section
/- A member takes what comes. -/
namespace Go.Q.Yi
open Rf
section
variable {O O':bz} {h h':Heap} {L:RLy} {r:RS}
theorem Gt {r5:RS} {h5:Heap} {L5:RLy} (q:Res O h L r5 h5 L5):WrH h5 ((⟨L.b,0,none⟩:Addr).add 9)/\Res O h L { r5 with ticks:=0 } (setH h5 ((⟨L.b,0,none⟩:Addr).add 9) (.int .i64 0)) L5/\Stp (own L5) h5 (setH h5 ((⟨L.b,0,none⟩:Addr).add 9) (.int .i64 0)):=by
 have M5:=q.R
 have w5:=M5.wf
 rw [← q.b]
 obtain ⟨w,f⟩:=M5.k.put (i:=9) (v:=.int .i64 0) (by show 9 < 14; omega)
 obtain ⟨K6,U6⟩:=f _ rfl
 have S6:Stp (own L5) h5 (setH h5 ((⟨L5.b,0,none⟩:Addr).add 9) (.int .i64 0)):=.dQ U6 (.inl (.inl rfl))
 exact ⟨w,q.trans (Res.of (M5.Cc K6 U6 ⟨w5.n,w5.me,w5.tm,w5.vt,w5.cm,⟨Int.le_refl _,by show (0:Int)<=1000000000; omega⟩,w5.ld,w5.nx,w5.hs,w5.bl,w5.sn,w5.kp⟩ ⟨rfl,rfl,rfl,rfl,rfl,rfl,rfl⟩) S6),S6⟩
theorem Az {r5:RS} {h5:Heap} {L5:RLy} {c:Int} (q:Res O h L r5 h5 L5) (hc:0<=c/\c < 18446744073709551616):WrH h5 ((⟨L.b,0,none⟩:Addr).add 6)/\Res O h L { r5 with commit:=c } (setH h5 ((⟨L.b,0,none⟩:Addr).add 6) (.int .u64 c)) L5/\Stp (own L5) h5 (setH h5 ((⟨L.b,0,none⟩:Addr).add 6) (.int .u64 c)):=by
 have M5:=q.R
 have w5:=M5.wf
 rw [← q.b]
 obtain ⟨w,f⟩:=M5.k.put (i:=6) (v:=.int .u64 c) (by show 6 < 14; omega)
 obtain ⟨K6,U6⟩:=f _ rfl
 have S6:Stp (own L5) h5 (setH h5 ((⟨L5.b,0,none⟩:Addr).add 6) (.int .u64 c)):=.dQ U6 (.inl (.inl rfl))
 exact ⟨w,q.trans (Res.of (M5.Cc K6 U6 ⟨w5.n,w5.me,w5.tm,w5.vt,hc,w5.tk,w5.ld,w5.nx,w5.hs,w5.bl,w5.sn,w5.kp⟩ ⟨rfl,rfl,rfl,rfl,rfl,rfl,rfl⟩) S6),S6⟩
theorem Res.c {r5:RS} {h5:Heap} {L5:RLy} (q:Res O h L r5 h5 L5) (i:Nat):af h5 ((⟨L.b,0,none⟩:Addr).add i)=(rcs L5 r5)[i]?:=by rw [← q.b]; exact q.R.c i
theorem rY {t:Int}:(r.aK t).keeps.length<=r.keeps.length + 1:=by
 unfold RS.aK RS.fq
 split <;> simp
theorem Fw {t:Int}:(r.aK t).n=r.n/\(r.aK t).me=r.me/\(r.aK t).log=r.log/\(r.aK t).commit=r.commit/\(r.aK t).aQ=r.aQ:=by
 unfold RS.aK RS.fq
 split <;> exact ⟨rfl,rfl,rfl,rfl,rfl⟩
theorem uo {from':Int} {v:ah} {m:Msg} {k:KP Slc} (R:aC O h L r) (hk:r.keeps.length < 999990) (MV:Imm O h fun h=>uE h v m) (wm:WFm m)
  (H:∀ s h' L',Res O h L (r.dK from' m).1 h' L'->aP (G O L') h' s (r.dK from' m).2->(∀ g,s.blk=some g->h.size<=g)->k s h'):lL (some ⟨L.b,0,none⟩) from' v k h:=by
 have V:=MV.now
 unfold lL
 refine ⟨_,_,rfl,rfl,?_⟩
 have X:=Ext.push h (.cells (ah.cs v).toArray 26) (Nat.le_refl _)
 have C:=Blk.push h (ah.cs v) 26
 have R2:=R.ext X
 have I2:=MV.ext X
 generalize h.push (.cells (ah.cs v).toArray 26)=h2 at *
 obtain ⟨b1,eb⟩:∃ y,y=h.size:=⟨_,rfl⟩
 rw [← eb] at C ⊢
 have z2:=X.size
 have q2:Res O h L r h2 L:=Res.of R2 (.bu X)
 unfold RS.dK at H
 refine ⟨m.term,by rw [C.get,← V.k.2.1]; rfl,xC R2 (by omega) wm.t fun h5 L5 q5=>?_⟩
 have C5:=q5.S.blk C (R2.nH C (by decide))
 have q25:=q2.trans ⟨q5.R.sub (fun g hg=>hg.elim (fun h=>h.elim .inl (fun h=>.inl (R.ow g h))) .inr) fun g hg=>.inr hg,q5.S,q5.F,q5.b⟩
 have I5:Imm (G O L5) h5 fun h=>uE h v m:=q5.imm R2 I2
 obtain ⟨w,q7,S7⟩:=Gt q25
 refine ⟨_,rfl,_,w,rfl,?_⟩
 have C7:=S7.blk C5 (q25.R.nH C5 (by decide))
 have I7:=I5.stp (S7.mono fun g hg=>.inl (.inr hg))
 generalize setH h5 ((⟨L.b,0,none⟩:Addr).add 9) (.int .i64 0)=h7 at *
 change Res O h L (r.dZ from' m) h7 L5 at q7
 have k1:(r.dZ from' m).keeps.length < 999995:=by show (r.aK m.term).keeps.length < _; have:=rY (r:=r) (t:=m.term); omega
 generalize r.dZ from' m=r1 at *
 refine ⟨m.index,by rw [C7.get,← V.k.2.2.1]; rfl,_,q7.c 6,?_⟩
 have j1:∀ {h8:Heap} {L8:RLy} {r8:RS},Res O h L r8 h8 L8->r1.lV m=r8->gG (some ⟨L.b,0,none⟩) from' k h8:=fun {h8 L8 r8} q e=>by
  rw [e] at H
  unfold gG
  refine ⟨_,rfl,_,q.c 6,?_⟩
  rw [← q.b]
  have z8:=q.S.size
  exact pR q.R fun s h' M X' sb=>H s h' L8 (q.ext X') M fun g hg=>by have:=sb g hg; omega
 show if (decide (m.index > r1.commit))=true then _ else _
 by_cases hc:m.index > r1.commit
 ·rw [if_pos (decide_eq_true hc)]
  refine ⟨m.index,by rw [C7.get,← V.k.2.2.1]; rfl,m.logTerm,by rw [C7.get,← V.k.2.2.2.1]; rfl,v.nK,by rw [C7.get]; rfl,?_⟩
  have R7:=q7.R
  rw [← q7.b]
  refine Eh R7 (by omega) (I7.imp fun _ V=>V.s) V.sl wm.s.1 wm.s.2 wm.i wm.l fun h8 L8 q8=>?_
  have C8:=q8.S.blk C7 (R7.nH C7 (by decide))
  have q78:=q7.trans q8
  obtain ⟨w,q9,_⟩:=Az q78 wm.i
  refine ⟨m.index,by rw [C8.get,← V.k.2.2.1]; rfl,_,by rw [q7.b]; exact w,rfl,?_⟩
  rw [q7.b]
  exact j1 q9 (by unfold RS.lV; rw [if_pos hc])
 ·rw [if_neg (by rw [decide_eq_false hc]; simp)]
  exact j1 q7 (by unfold RS.lV; rw [if_neg hc])
theorem BX {from' last:Int} {b1:Nat} {v:ah} {m:Msg} {r5:RS} {h5:Heap} {L5:RLy} {k:KP Slc} (q:Res O h L r5 h5 L5) (C:Blk h5 b1 (ah.cs v) 26) (V:v.sH=m.commit) (mc:0<=m.commit/\m.commit < 18446744073709551616) (lb:0<=last/\last < 18446744073709551616)
  (H:∀ s h' L',Res O h L { r5 with commit:=max r5.commit (min m.commit last) } h' L'->aP (G O L') h' s (r5.answer from' 4 true last)->(∀ g,s.blk=some g->h.size<=g)->k s h'):fO (some ⟨L.b,0,none⟩) from' ⟨b1,0,none⟩ last k h5:=by
 have cb:=q.R.wf.cm
 unfold fO
 refine ⟨_,rfl,_,q.c 6,m.commit,by rw [C.get,← V]; rfl,?_⟩
 have e:(if (if last < m.commit then last else m.commit) > r5.commit then (if last < m.commit then last else m.commit) else r5.commit)=max r5.commit (min m.commit last):=by
  split <;> split <;> omega
 show ∃ h29:Heap,_/\h29=setH h5 _ (.int .u64 (if (if last < m.commit then last else m.commit) > r5.commit then (if last < m.commit then last else m.commit) else r5.commit))/\_
 rw [e]
 obtain ⟨w,q6,_⟩:=Az (c:=max r5.commit (min m.commit last)) q (by omega)
 refine ⟨_,w,rfl,?_⟩
 generalize setH h5 ((⟨L.b,0,none⟩:Addr).add 6) (.int .u64 (max r5.commit (min m.commit last)))=h6 at *
 have z6:=q6.S.size
 rw [← q6.b]
 exact pR (r:={ r5 with commit:=max r5.commit (min m.commit last) }) q6.R fun s h' M X' sb=>H s h' L5 (q6.ext X') M fun g hg=>by have:=sb g hg; omega
theorem vC {from':Int} {v:ah} {m:Msg} {k:KP Slc} (R:aC O h L r) (hk:r.keeps.length < 999990) (MV:Imm O h fun h=>uE h v m) (wm:WFm m)
  (H:∀ s h' L',Res O h L (r.appends from' m).1 h' L'->aP (G O L') h' s (r.appends from' m).2->(∀ g,s.blk=some g->h.size<=g)->k s h'):mZ (some ⟨L.b,0,none⟩) from' v k h:=by
 have V:=MV.now
 unfold mZ
 refine ⟨_,_,rfl,rfl,?_⟩
 have X:=Ext.push h (.cells (ah.cs v).toArray 26) (Nat.le_refl _)
 have C:=Blk.push h (ah.cs v) 26
 have R2:=R.ext X
 have I2:=MV.ext X
 generalize h.push (.cells (ah.cs v).toArray 26)=h2 at *
 obtain ⟨b1,eb⟩:∃ y,y=h.size:=⟨_,rfl⟩
 rw [← eb] at C ⊢
 have z2:=X.size
 have q2:Res O h L r h2 L:=Res.of R2 (.bu X)
 unfold RS.appends RS.mQ at H
 refine ⟨m.term,by rw [C.get,← V.k.2.1]; rfl,xC R2 (by omega) wm.t fun h5 L5 q5=>?_⟩
 have C5:=q5.S.blk C (R2.nH C (by decide))
 have q25:=q2.trans ⟨q5.R.sub (fun g hg=>hg.elim (fun h=>h.elim .inl (fun h=>.inl (R.ow g h))) .inr) fun g hg=>.inr hg,q5.S,q5.F,q5.b⟩
 have I5:Imm (G O L5) h5 fun h=>uE h v m:=q5.imm R2 I2
 obtain ⟨w,q7,S7⟩:=Gt q25
 refine ⟨_,rfl,_,w,rfl,?_⟩
 have C7:=S7.blk C5 (q25.R.nH C5 (by decide))
 have I7:=I5.stp (S7.mono fun g hg=>.inl (.inr hg))
 generalize setH h5 ((⟨L.b,0,none⟩:Addr).add 9) (.int .i64 0)=h7 at *
 change Res O h L (r.dZ from' m) h7 L5 at q7
 have k1:(r.dZ from' m).keeps.length < 999995:=by show (r.aK m.term).keeps.length < _; have:=rY (r:=r) (t:=m.term); omega
 generalize r.dZ from' m=r1 at *
 have R7:=q7.R
 refine ⟨v,aJ.eQ C7,?_⟩
 rw [← q7.b]
 refine Gj R7 I7.now wm fun v9 h10 F10 X10=>?_
 have q10:=q7.ext X10
 have R10:=q10.R
 have z10:=X10.size
 have C10:=C7.ext X10 C7.lt
 refine ⟨_,_,rfl,rfl,?_⟩
 have D11:=Blk.push h10 (aj.cs ⟨0,0,0,0,⟨none,0,0⟩,⟨none,0,0⟩⟩) 107
 have D12:=D11.jZ (vs:=aj.cs v9) rfl
 have X12:Ext h10.size h10 (aU (h10.push (.cells (aj.cs ⟨0,0,0,0,⟨none,0,0⟩,⟨none,0,0⟩⟩).toArray 107)) ⟨h10.size,0,none⟩ 0 (aj.cs v9)):=(Ext.push h10 _ (Nat.le_refl _)).trans (Ext.sets _ _ _ (Nat.le_refl _))
 refine ⟨_,dE.eQ D11 (by show 6<=6; omega),rfl,?_⟩
 generalize aU (h10.push (.cells (aj.cs ⟨0,0,0,0,⟨none,0,0⟩,⟨none,0,0⟩⟩).toArray 107)) ⟨h10.size,0,none⟩ 0 (aj.cs v9)=h12 at *
 obtain ⟨b11,e11⟩:∃ y,y=h10.size:=⟨_,rfl⟩
 rw [← e11] at D12 ⊢
 have z12:=X12.size
 have q12:=q10.ext X12
 have R12:=q12.R
 have C12:=C10.ext X12 C10.lt
 have I12:=(I7.ext X10).ext X12
 have F12:Imm (G O L5) h12 fun h=>zP h v9 (r1.fresh m):=(F10 (G O L5) fun g hg=>.inl hg).ext X12
 have n11:¬ own L5 b11:=fun h=>by have:=R10.ob' h; omega
 refine ⟨_,R12.c 4,m.index,by rw [C12.get,← V.k.2.2.1]; rfl,m.logTerm,by rw [C12.get,← V.k.2.2.2.1]; rfl,v.dR,by rw [C12.get]; rfl,?_⟩
 refine AY R12.p.l R12.ob (I12.imp fun _ V=>V.e) wm.e wm.i.1 wm.i.2 wm.z fun h19 s19 A19 S19 f19=>?_
 have q19:=EK R12 A19 S19 f19
 have q119:=q12.trans q19
 have C19:=q19.S.blk C12 (R12.nH C12 (by decide))
 have D19:=q19.S.blk D12 n11
 have F19:=q19.imm R12 F12
 have ab:=xy (l:=r1.log) (p:=m.index) (t:=m.logTerm) (more:=m.aM)
 obtain ⟨L6,eL6⟩:∃ y,y=({ L5 with es:=s19 }:RLy):=⟨_,rfl⟩
 rw [← eL6] at q19 q119 F19
 have h2:r1.Ae m = { r1 with log:=(r1.log.append m.index m.logTerm m.aM).1,keeps:=if (r1.fresh m).aM.length > 0 then r1.keeps ++ [r1.fresh m] else r1.keeps,commit:=max r1.commit (min m.commit (r1.log.append m.index m.logTerm m.aM).2.1) }:=rfl
 have hE:=yY (l:=r1.log) (p:=m.index) (t:=m.logTerm) (more:=m.aM)
 generalize r1.log.append m.index m.logTerm m.aM=A at *
 by_cases he:A.2.2=0
 ·rw [if_neg (by simpa using he)]
  rw [if_neg (show ¬ A.2.2≠0 by simpa using he),h2] at H
  have n6:¬ own L6 b11:=fun h=>(q19.F b11 h).elim n11 fun h=>by have:=D12.lt; omega
  have fl:v9.dR.len=(r1.fresh m).aM.length:=F19.now.e.l
  refine ⟨v9.dR,by rw [D19.get]; rfl,?_⟩
  have ends:∀ {h40:Heap} {L7:RLy} {r7:RS},Res O h L r7 h40 L7->Blk h40 b1 (ah.cs v) 26->r7 = { r1 with log:=A.1,keeps:=if (r1.fresh m).aM.length > 0 then r1.keeps ++ [r1.fresh m] else r1.keeps }->fO (some ⟨L5.b,0,none⟩) from' ⟨b1,0,none⟩ A.2.1 k h40:=fun {h40 L7 r7} q Cb e=>by
   rw [q7.b]
   refine BX (m:=m) q Cb V.k.2.2.2.2.1 wm.c ab fun s h' L' q' M sb=>H s h' L' ?_ ?_ sb
   ·subst e; exact q'
   ·subst e; exact M
  by_cases hf:(r1.fresh m).aM.length > 0
  ·rw [if_pos (by simp; omega)]
   have e5:L5.b=L6.b:=by rw [eL6]
   have R19:=q119.R
   rw [e5]
   refine ⟨_,R19.c 13,v9,aJ.eQ D19,_,_,rfl,rfl,?_⟩
   have X36:=Ext.push h19 (.cells (aj.cs v9).toArray 107) (Nat.le_refl _)
   have q36:=q119.ext X36
   have C36:=C19.ext X36 C19.lt
   have F36:=F19.ext X36
   generalize h19.push (.cells (aj.cs v9).toArray 107)=h36 at *
   have R36:=q36.R
   refine ⟨R36.c 13,uX (x:=r1.fresh m) R36 (by show r1.keeps.length < _; omega) (F36.mono fun g hg=>.inl (hg.elim (fun h=>.inl (.inl h)) .inr)) fun h40 L7 q40=>?_⟩
   have C40:=q40.S.blk C36 (R36.nH C36 (by decide))
   rw [← e5]
   exact ends (q36.trans q40) C40 (by rw [if_pos hf])
  ·rw [if_neg (by simp; omega)]
   exact ends q119 C19 (by rw [if_neg hf])
 ·rw [if_pos (by simpa using he)]
  rw [if_pos he] at H
  have e5:L5.b=L6.b:=by rw [eL6]
  have e1:=hE he
  have q6:Res O h L r1 h19 L6:=by have:=q119; rw [e1] at this; exact this
  have R6:=q6.R
  have c19:af h19 ((⟨L5.b,0,none⟩:Addr).add 4)=some (.pointer (some ⟨L6.lb,0,none⟩)):=by rw [e5,R6.c 4]; rfl
  refine ⟨_,c19,sZ R6.p.l ⟨m.index,by rw [C19.get,← V.k.2.2.1]; rfl,?_⟩⟩
  have ib:=wm.i
  have e:(if IntKind.u64.wrap ((if 1 > m.index then 1 else m.index) - 1) < r1.log.last then IntKind.u64.wrap ((if 1 > m.index then 1 else m.index) - 1) else r1.log.last)=min r1.log.last (max m.index 1 - 1):=by
   have:(if 1 > m.index then 1 else m.index)=max m.index 1:=by split <;> omega
   rw [this,aY (by omega) (by omega)]
   split <;> omega
  rw [e,e5]
  have z6:=q6.S.size
  exact pR R6 fun s h' M X' sb=>H s h' L6 (q6.ext X') M fun g hg=>by have:=sb g hg; omega
end
end Go.Q.Yi
end
section
/- A member takes whatever comes. -/
namespace Go.Q.Yi
open Rf
section
variable {O O':bz} {h h':Heap} {L:RLy} {r:RS}
theorem Res.step {r1 r2:RS} {h1 h2:Heap} {L1:RLy} (q:Res O h L r1 h1 L1) (M:aC (G O L1) h2 L1 r2) (S:Stp (own L1) h1 h2):Res O h L r2 h2 L1:=q.trans (Res.of M S)
theorem CX (x:RS):x.settle.next=x.next:=by unfold RS.settle; split <;> rfl
theorem uQ {from':Int} {v:ah} {m:Msg} {k:KP Slc} (R:aC O h L r) (V:v.oZ=m.kind/\v.cZ=m.term/\v.mg=m.index/\v.sw=m.logTerm/\v.sH=m.commit/\v.Db=m.yes) (ib:0<=m.index/\m.index < 18446744073709551616) (f0:0<=from') (f1:from' < r.n)
  (H:∀ s h' L',Res O h L (r.appended from' m).1 h' L'->aP (G O L') h' s (r.appended from' m).2->(∀ g,s.blk=some g->h.size<=g)->k s h'):lJ (some ⟨L.b,0,none⟩) from' v k h:=by
 have wf:=R.wf
 have nb:=wf.n
 unfold lJ
 refine ⟨_,_,rfl,rfl,?_⟩
 have X:=Ext.push h (.cells (ah.cs v).toArray 26) (Nat.le_refl _)
 have C:=Blk.push h (ah.cs v) 26
 have R2:=R.ext X
 generalize h.push (.cells (ah.cs v).toArray 26)=h2 at *
 obtain ⟨b1,eb⟩:∃ y,y=h.size:=⟨_,rfl⟩
 rw [← eb] at C ⊢
 have z2:=X.size
 have q2:Res O h L r h2 L:=Res.of R2 (.bu X)
 have M2:=q2.R
 have ci:∀ {h':Heap},Blk h' b1 (ah.cs v) 26->af h' ((⟨b1,0,none⟩:Addr).add 2)=some (.int .u64 m.index):=fun C=>by rw [C.get,← V.2.2.1]; rfl
 unfold RS.appended at H
 have none':(r.appended from' m)=(r,[])->k ⟨none,0,0⟩ h2:=fun e=>H _ h2 L (by unfold RS.appended at e; rw [e]; exact q2) (by unfold RS.appended at e; rw [e]; exact aP.nil _ _) fun g hg=>by simp [Slc.blk] at hg
 refine ⟨_,rfl,_,R2.c 7,?_⟩
 by_cases hr:r.role=2
 ·rw [if_neg (by simpa using hr)]
  have ld:=wf.ld hr
  rw [if_neg (by simpa using hr)] at H
  have W1:∀ x,IntKind.u64.wrap x=W x:=fun _=>rfl
  refine ⟨m.yes,by rw [C.get,← V.2.2.2.2.2]; rfl,?_⟩
  -- a letter of its own
  have mail:∀ {r5:RS} {h5:Heap},Res O h L r5 h5 L->from' < r5.next.length->((∀ s h' L',Res O h L r5 h' L'->aP (G O L') h' s [(from',r5.due from')]->(∀ g,s.blk=some g->h.size<=g)->k s h'))->kM (some ⟨L.b,0,none⟩) from' (fun (r13:ah) h14=>∃ (b15:Nat) (h16:Heap),b15=h14.size/\h16=h14.push (.cells ((aG.cs (⟨from',r13⟩:aG))).toArray 45)/\(k (⟨some ⟨b15,0,none⟩,1,1⟩:Slc) h16)) h5:=fun {r5 h5} q hl K=>by
   have R5:=q.R
   refine HZ R5 f0 hl fun w h6 D X6=>⟨_,_,rfl,rfl,?_⟩
   have z5:=q.S.size
   have z6:=X6.size
   exact K _ _ L ((q.ext X6).ext (Ext.push h6 _ (Nat.le_refl _))) (Ct D (fun g hg=>by have:=R5.ob g hg; omega)) fun g hg=>by simp [Slc.blk] at hg; omega
  cases hy:m.yes with
  | false =>
   rw [if_pos (by simp)]
   rw [hy,if_pos rfl] at H
   unfold RS.back at H
   have nbd:0<=W (r.next.getD from'.toNat 0 - 1)/\W (r.next.getD from'.toNat 0 - 1) < 18446744073709551616:=xI _
   have ibd:=xI (m.index + 1)
   obtain ⟨a,ha,i0,i1,w6,M6,S6⟩:=Am (i:=from') (v:=max 1 (min (W (r.next.getD from'.toNat 0 - 1)) (W (m.index + 1)))) M2 f0 (by omega) (by omega)
   obtain ⟨a2,ha2,_,_,c2⟩:=sN M2.p.nx f0 (by omega)
   rw [ha] at ha2; cases ha2
   refine ⟨_,R2.c 11,_,R2.c 11,a,ha,i0,i1,_,c2,_,ci C,a,ha,i0,i1,?_⟩
   have e:(if (if IntKind.u64.wrap (m.index + 1) < IntKind.u64.wrap (r.next.getD from'.toNat 0 - 1) then IntKind.u64.wrap (m.index + 1) else IntKind.u64.wrap (r.next.getD from'.toNat 0 - 1)) > 1 then (if IntKind.u64.wrap (m.index + 1) < IntKind.u64.wrap (r.next.getD from'.toNat 0 - 1) then IntKind.u64.wrap (m.index + 1) else IntKind.u64.wrap (r.next.getD from'.toNat 0 - 1)) else 1)=max 1 (min (W (r.next.getD from'.toNat 0 - 1)) (W (m.index + 1))):=by
    rw [W1,W1]; split <;> split <;> omega
   rw [e]
   refine ⟨_,w6,rfl,mail (q2.step M6 S6) (by simp; omega) H⟩
  | true =>
   rw [if_neg (by simp)]
   rw [hy,if_neg (by simp)] at H
   refine ⟨_,R2.c 4,sZ R2.p.l ⟨_,ci C,?_⟩⟩
   by_cases hm:m.index > r.log.last
   ·rw [if_pos (by simpa using hm)]
    exact none' (by unfold RS.appended; rw [if_neg (by simpa using hr),hy,if_neg (by simp),if_pos hm])
   ·rw [if_neg (by simpa using hm)]
    rw [if_neg hm] at H
    unfold RS.gD at H
    have hb:=fun x (hx:x∈r.has)=>wf.hs x hx
    have nb':=fun x (hx:x∈r.next)=>wf.nx x hx
    have gd:∀ {l:List Int},from' < l.length->(∀ x∈l,0<=x/\x < 18446744073709551616)->0<=l.getD from'.toNat 0/\l.getD from'.toNat 0 < 18446744073709551616:=fun {l} hl hx=>by
     obtain ⟨y,hy⟩:∃ y,l[from'.toNat]? = some y:=⟨_,List.getElem?_eq_getElem (by omega)⟩
     rw [List.getD_eq_getElem?_getD,hy]; exact hx y (List.mem_of_getElem? hy)
    have hg:=gd (l:=r.has) (by omega) hb
    have ng:=gd (l:=r.next) (by omega) nb'
    have ibd:=xI (m.index + 1)
    obtain ⟨a,ha,i0,i1,w6,M6,S6⟩:=zn (i:=from') (v:=max (r.has.getD from'.toNat 0) m.index) M2 f0 (by omega) (by omega)
    obtain ⟨a2,ha2,_,_,c2⟩:=sN M2.p.hs f0 (by omega)
    rw [ha] at ha2; cases ha2
    refine ⟨_,R2.c 12,_,R2.c 12,a,ha,i0,i1,_,c2,_,ci C,a,ha,i0,i1,?_⟩
    have e:(if m.index > r.has.getD from'.toNat 0 then m.index else r.has.getD from'.toNat 0)=max (r.has.getD from'.toNat 0) m.index:=by split <;> omega
    rw [e]
    refine ⟨_,w6,rfl,?_⟩
    have q6:=q2.step M6 S6
    have C6:=S6.blk C (M2.nH C (by decide))
    have R6:=q6.R
    generalize setH h2 (a.add (from'.toNat * 1)) (.int .u64 (max (r.has.getD from'.toNat 0) m.index))=h6 at *
    obtain ⟨a3,ha3,i0,i1,w7,M7,S7⟩:=Am (i:=from') (v:=max (r.next.getD from'.toNat 0) (W (m.index + 1))) R6 f0 (by show from' < r.next.length; omega) (by omega)
    obtain ⟨a4,ha4,_,_,c4⟩:=sN R6.p.nx f0 (by show from' < r.next.length; omega)
    rw [ha3] at ha4; cases ha4
    refine ⟨_,R6.c 11,_,R6.c 11,a3,ha3,i0,i1,_,c4,_,ci C6,a3,ha3,i0,i1,?_⟩
    have e:(if IntKind.u64.wrap (m.index + 1) > r.next.getD from'.toNat 0 then IntKind.u64.wrap (m.index + 1) else r.next.getD from'.toNat 0)=max (r.next.getD from'.toNat 0) (W (m.index + 1)):=by rw [W1]; split <;> omega
    rw [e]
    refine ⟨_,w7,rfl,?_⟩
    have q7:=q6.step M7 S7
    have R7:=q7.R
    generalize setH h6 (a3.add (from'.toNat * 1)) (.int .u64 (max (r.next.getD from'.toNat 0) (W (m.index + 1))))=h7 at *
    refine Ak R7 (by simp; exact ld.2) fun h8 M8 S8=>?_
    have q8:=q7.step M8 S8
    have R8:=q8.R
    have nl:=CX { r with has:=r.has.set from'.toNat (max (r.has.getD from'.toNat 0) m.index),next:=r.next.set from'.toNat (max (r.next.getD from'.toNat 0) (W (m.index + 1))) }
    obtain ⟨a5,ha5,i0,i1,c5⟩:=sN R8.p.nx f0 (by rw [nl]; simp; omega)
    refine ⟨_,R8.c 11,a5,ha5,i0,i1,_,c5,?_⟩
    by_cases hl:(RS.settle { r with has:=r.has.set from'.toNat (max (r.has.getD from'.toNat 0) m.index),next:=r.next.set from'.toNat (max (r.next.getD from'.toNat 0) (W (m.index + 1))) }).next.getD from'.toNat 0<=r.log.last
    ·rw [if_pos (by simpa using hl)]
     rw [if_pos hl] at H
     exact mail q8 (by rw [nl]; simp; omega) H
    ·rw [if_neg (by simpa using hl)]
     rw [if_neg hl] at H
     exact H _ h8 L q8 (aP.nil _ _) fun g hg=>by simp [Slc.blk] at hg
 ·rw [if_pos (by simpa using hr)]
  exact none' (by unfold RS.appended; rw [if_pos (by simpa using hr)])
theorem Lf {l:List Int} {v n:Int} (hl:l.Nodup/\∀ x∈l,0<=x/\x < n):(RS.say l v n).Nodup/\∀ x∈RS.say l v n,0<=x/\x < n:=by
 unfold RS.say
 split
 ·exact hl
 ·rename_i h
  refine ⟨List.nodup_append.2 ⟨hl.1,by simp,fun a ha b hb=>by simp at hb; subst hb; intro e; subst e; exact h (.inr (.inr ha))⟩,fun x hx=>?_⟩
  rcases List.mem_append.1 hx with hx | hx
  ·exact hl.2 x hx
  ·simp at hx; subst hx; omega
/-- one that asks, or another, counts a vote -/
theorem zy {from':Int} {m:Msg} {b:Bool} {k:KP Slc} (R:aC O h L r) (ha:r.role=1->∃ l,r.ballot=some l) (hk:r.keeps.length < 999990) (f0:0<=from') (f1:from' < r.n) (hb:b=true ↔ (r.role=1/\m.yes=true))
  (H:∀ s h' L',Res O h L (r.counted from' m).win.1 h' L'->aP (G O L') h' s (r.counted from' m).win.2->(∀ g,s.blk=some g->h.size<=g)->k s h'):kF (some ⟨L.b,0,none⟩) from' b k h:=by
 have wf:=R.wf
 have nb:=wf.n
 unfold kF
 unfold RS.counted at H
 have j2:∀ {r5:RS} {h5:Heap},Res O h L r5 h5 L->(r5.role=1->∃ l,r5.ballot=some l)->r5.keeps.length < 999990->(∀ s h' L',Res O h L r5.win.1 h' L'->aP (G O L') h' s r5.win.2->(∀ g,s.blk=some g->h.size<=g)->k s h')->kD (some ⟨L.b,0,none⟩) k h5:=fun {r5 h5} q hA hK K=>by
  unfold kD
  have R5:=q.R
  have z5:=q.S.size
  exact zN R5 hA (by omega) fun s h' L' q' M sb=>K s h' L' (q.trans q') (M.sub fun g hg=>hg.elim (fun h=>.inl (.inl h)) .inr) fun g hg=>by have:=sb g hg; omega
 have q0:Res O h L r h L:=Res.of R (Stp.refl _ _)
 cases b with
 | false =>
  rw [if_neg (by simp)]
  rw [if_neg fun h=>by have:=hb.2 h; cases this] at H
  exact j2 q0 ha hk H
 | true =>
  rw [if_pos rfl]
  have hc:=hb.1 rfl
  rw [if_pos hc] at H
  obtain ⟨l,el⟩:=ha hc.1
  obtain ⟨nd,lbd⟩:=wf.bl l el
  obtain ⟨y1,y2,y3⟩:=BS (n:=r.n.toNat) (by omega) nd fun x hx=>by have:=lbd x hx; omega
  have B:=R.p.bl
  rw [el] at B
  obtain ⟨c,ec⟩:∃ c,L.bal=some c:=by
   cases hb:L.bal with
   | none=>rw [hb] at B; exact B.elim
   | some c=>exact ⟨c,rfl⟩
  rw [ec] at B
  have cc:=R.c 10
  have e10:L.bal.map (fun c=>(⟨c,0,none⟩:Addr))=some ⟨c,0,none⟩:=by rw [ec]; rfl
  refine ⟨_,rfl,_,cc,?_⟩
  rw [e10]
  have ei:((from'.toNat:Nat):Int)=from':=Int.toNat_of_nonneg f0
  have e3:=y3 from'.toNat
  rw [ei] at e3
  refine F4 (n:=r.n) (y:=bits l) (p:=from') B (by omega) nb.2 y1 (by omega) (fun p0 p1 hz h5 B5 U5=>?_) fun hn=>?_
  ·rw [hz] at e3
   have hm:from' ∉ l:=fun hm=>by rw [if_pos hm] at e3; cases e3
   rw [← FN] at B5
   have es:RS.say l from' r.n=l ++ [from']:=by unfold RS.say; rw [if_neg (by rintro (h | h | h); omega; omega; exact hm h)]
   have eM:r.ballot.map (fun l=>RS.say l from' r.n)=some (l ++ [from']):=by rw [el]; simp [es]
   rw [eM] at H
   have hs:=Lf (v:=from') (n:=r.n) ⟨nd,lbd⟩
   rw [es] at hs
   obtain ⟨M5,S5⟩:=JW (l:=l ++ [from']) R ec B5 U5 hs
   exact j2 (Res.of M5 S5) (fun _=>⟨_,rfl⟩) hk H
  ·have hm:from'∈l:=by
    by_cases hm:from'∈l
    ·exact hm
    ·rw [if_neg hm] at e3; have:=hn f0 f1; omega
   have es:RS.say l from' r.n=l:=by unfold RS.say; rw [if_pos (.inr (.inr hm))]
   have eM:r.ballot.map (fun l=>RS.say l from' r.n)=r.ballot:=by rw [el]; simp [es]
   rw [eM] at H
   exact j2 q0 ha hk H
/-- a member takes a message -/
theorem Ip {from':Int} {v:ah} {m:Msg} {k:KP Slc} (R:aC O h L r) (ha:r.role=1->∃ l,r.ballot=some l) (hk:r.keeps.length < 999900) (MV:Imm O h fun h=>uE h v m) (wm:WFm m)
  (H:∀ s h' L',Res O h L (r.take from' m).1 h' L'->aP (G O L') h' s (r.take from' m).2->(∀ g,s.blk=some g->h.size<=g)->k s h'):oW (some ⟨L.b,0,none⟩) from' v k h:=by
 have wf:=R.wf
 have nb:=wf.n
 have V:=MV.now
 unfold oW
 refine ⟨_,_,rfl,rfl,?_⟩
 have X:=Ext.push h (.cells (ah.cs v).toArray 26) (Nat.le_refl _)
 have C:=Blk.push h (ah.cs v) 26
 have R2:=R.ext X
 have I2:=MV.ext X
 generalize h.push (.cells (ah.cs v).toArray 26)=h2 at *
 obtain ⟨b1,eb⟩:∃ y,y=h.size:=⟨_,rfl⟩
 rw [← eb] at C ⊢
 have z2:=X.size
 have q2:Res O h L r h2 L:=Res.of R2 (.bu X)
 have ck:∀ {h':Heap},Blk h' b1 (ah.cs v) 26->af h' (⟨b1,0,none⟩:Addr)=some (.int .i64 m.kind):=fun C=>by rw [C.cell,← V.k.1]; rfl
 have ct:∀ {h':Heap},Blk h' b1 (ah.cs v) 26->af h' ((⟨b1,0,none⟩:Addr).add 1)=some (.int .u64 m.term):=fun C=>by rw [C.get,← V.k.2.1]; rfl
 have cy:∀ {h':Heap},Blk h' b1 (ah.cs v) 26->af h' ((⟨b1,0,none⟩:Addr).add 5)=some (.bool m.yes):=fun C=>by rw [C.get,← V.k.2.2.2.2.2]; rfl
 unfold RS.take at H
 -- what is taken, of a term that is its own
 have j1:∀ {r5:RS} {h5:Heap} {L5:RLy},Res O h L r5 h5 L5->Blk h5 b1 (ah.cs v) 26->Imm (G O L5) h5 (fun h=>uE h v m)->(r5.role=1->∃ l,r5.ballot=some l)->r5.keeps.length < 999990->r5.n=r.n->0<=from'->from' < r.n ->
   (∀ s h' L',Res O h L (r5.take2 from' m).1 h' L'->aP (G O L') h' s (r5.take2 from' m).2->(∀ g,s.blk=some g->h.size<=g)->k s h')->kH (some ⟨L.b,0,none⟩) from' ⟨b1,0,none⟩ k h5:=fun {r5 h5 L5} q C5 I5 hA hK hn f0 f1 K=>by
  have R5:=q.R
  have z5:=q.S.size
  have up:∀ {a:RS × List gQ},r5.take2 from' m=a->∀ s h' L',Res (G O L5) h5 L5 a.1 h' L'->aP (G (G O L5) L') h' s a.2->(∀ g,s.blk=some g->h5.size<=g)->k s h':=fun {a} e s h' L' q' M sb=>K s h' L' (by rw [e]; exact q.trans q') (by rw [e]; exact M.sub fun g hg=>hg.elim (fun h=>.inl (.inl h)) .inr) fun g hg=>by have:=sb g hg; omega
  have et:r5.take2 from' m=if m.kind=1 then r5.lv from' m else if m.kind=2 then (r5.counted from' m).win else if m.kind=3 then r5.appends from' m else if m.kind=4 then r5.appended from' m else r5.dK from' m:=rfl
  unfold kH
  refine ⟨_,ck C5,?_⟩
  rw [← q.b]
  by_cases h1:m.kind=1
  ·rw [if_pos (by simpa using h1)]
   rw [if_pos h1] at et
   exact ⟨v,aJ.eQ C5,yU R5 hK V.k f0 (by omega) (up et)⟩
  rw [if_neg (by simpa using h1)]
  rw [if_neg h1] at et
  by_cases h2:m.kind=2
  ·rw [if_pos (by simpa using h2)]
   rw [if_pos h2] at et
   refine ⟨_,rfl,_,R5.c 7,?_⟩
   by_cases hr:r5.role=1
   ·rw [if_pos (by simpa using hr)]
    exact ⟨_,cy C5,zy R5 hA hK f0 (by omega) ⟨fun h=>⟨hr,h⟩,fun h=>h.2⟩ (up et)⟩
   ·rw [if_neg (by simpa using hr)]
    exact zy R5 hA hK f0 (by omega) ⟨(fun h=>by cases h),fun h=>absurd h.1 hr⟩ (up et)
  rw [if_neg (by simpa using h2)]
  rw [if_neg h2] at et
  by_cases h3:m.kind=3
  ·rw [if_pos (by simpa using h3)]
   rw [if_pos h3] at et
   exact ⟨v,aJ.eQ C5,vC R5 hK I5 wm (up et)⟩
  rw [if_neg (by simpa using h3)]
  rw [if_neg h3] at et
  by_cases h4:m.kind=4
  ·rw [if_pos (by simpa using h4)]
   rw [if_pos h4] at et
   exact ⟨v,aJ.eQ C5,uQ R5 V.k wm.i f0 (by omega) (up et)⟩
  rw [if_neg (by simpa using h4)]
  rw [if_neg h4] at et
  exact ⟨v,aJ.eQ C5,uo R5 hK I5 wm (up et)⟩
 have bad:(from' < 0∨from'>=r.n∨from'=r.me∨m.kind < 1∨m.kind > 5)->k ⟨none,0,0⟩ h2:=fun hb=>by
  rw [if_pos hb] at H
  exact H _ h2 L q2 (aP.nil _ _) fun g hg=>by simp [Slc.blk] at hg
 have g7:∀ b:Bool,(b=true ↔ (from' < 0∨from'>=r.n∨from'=r.me∨m.kind < 1∨m.kind > 5))->kC (some ⟨L.b,0,none⟩) from' ⟨b1,0,none⟩ b k h2:=fun b hb=>by
  unfold kC
  cases b with
  | true=>rw [if_pos rfl]; exact bad (hb.1 rfl)
  | false =>
   rw [if_neg (by simp)]
   have hg:¬ (from' < 0∨from'>=r.n∨from'=r.me∨m.kind < 1∨m.kind > 5):=fun h=>by have:=hb.2 h; cases this
   rw [if_neg hg] at H
   refine ⟨_,ct C,_,rfl,_,R2.c 2,?_⟩
   show if (decide (m.term < r.term))=true then _ else _
   by_cases h1:m.term < r.term
   ·rw [if_pos (decide_eq_true h1)]
    rw [if_pos h1] at H
    exact ⟨v,aJ.eQ C,Iz q2.R V.k.1 fun s h' M X' sb=>H s h' L (q2.ext X') M fun g hg=>by have:=sb g hg; omega⟩
   rw [if_neg (by rw [decide_eq_false h1]; simp)]
   rw [if_neg h1] at H
   refine ⟨_,ct C,_,R2.c 2,?_⟩
   show if (decide (m.term > r.term))=true then _ else _
   by_cases h2:m.term > r.term
   ·rw [if_pos (decide_eq_true h2)]
    rw [if_pos h2] at H
    refine ⟨_,ct C,xC R2 (by omega) wm.t fun h5 L5 q5=>?_⟩
    have q25:=q2.trans ⟨q5.R.sub (fun g hg=>hg.elim (fun h=>h.elim .inl (fun h=>.inl (R.ow g h))) .inr) fun g hg=>.inr hg,q5.S,q5.F,q5.b⟩
    refine j1 q25 (q5.S.blk C (R2.nH C (by decide))) (q5.imm R2 I2) (fun e=>by cases e) ?_ ?_ (by omega) (by omega) H
    ·show (r.aK m.term).keeps.length < _; have:=rY (r:=r) (t:=m.term); omega
    ·exact (Fw (r:=r) (t:=m.term)).1
   ·rw [if_neg (by rw [decide_eq_false h2]; simp)]
    rw [if_neg h2] at H
    exact j1 q2 C (I2.mono fun g hg=>.inl (hg.elim id (R.ow g))) ha (by omega) rfl (by omega) (by omega) H
 have g6:∀ b:Bool,(b=true ↔ (from' < 0∨from'>=r.n∨from'=r.me∨m.kind < 1))->kK (some ⟨L.b,0,none⟩) from' ⟨b1,0,none⟩ b k h2:=fun b hb=>by
  unfold kK
  cases b with
  | true=>rw [if_pos rfl]; exact g7 _ ⟨fun _=>by have:=hb.1 rfl; omega,fun _=>rfl⟩
  | false =>
   rw [if_neg (by simp)]
   have hg:¬ (from' < 0∨from'>=r.n∨from'=r.me∨m.kind < 1):=fun h=>by have:=hb.2 h; cases this
   exact ⟨_,ck C,g7 _ (by rw [decide_eq_true_eq]; omega)⟩
 have g5:∀ b:Bool,(b=true ↔ (from' < 0∨from'>=r.n∨from'=r.me))->jX (some ⟨L.b,0,none⟩) from' ⟨b1,0,none⟩ b k h2:=fun b hb=>by
  unfold jX
  cases b with
  | true=>rw [if_pos rfl]; exact g6 _ ⟨fun _=>by have:=hb.1 rfl; omega,fun _=>rfl⟩
  | false =>
   rw [if_neg (by simp)]
   have hg:¬ (from' < 0∨from'>=r.n∨from'=r.me):=fun h=>by have:=hb.2 h; cases this
   exact ⟨_,ck C,g6 _ (by rw [decide_eq_true_eq]; omega)⟩
 have g4:∀ b:Bool,(b=true ↔ (from' < 0∨from'>=r.n))->kz (some ⟨L.b,0,none⟩) from' ⟨b1,0,none⟩ b k h2:=fun b hb=>by
  unfold kz
  cases b with
  | true=>rw [if_pos rfl]; exact g5 _ ⟨fun _=>by have:=hb.1 rfl; omega,fun _=>rfl⟩
  | false =>
   rw [if_neg (by simp)]
   have hg:¬ (from' < 0∨from'>=r.n):=fun h=>by have:=hb.2 h; cases this
   refine ⟨_,rfl,_,R2.c0,g5 _ ?_⟩
   rw [beq_iff_eq]; omega
 by_cases hf:from' < 0
 ·rw [if_pos (by simpa using hf)]
  exact g4 true ⟨fun _=>.inl hf,fun _=>rfl⟩
 ·rw [if_neg (by simpa using hf)]
  refine ⟨_,rfl,_,R2.c 1,g4 _ ?_⟩
  show decide (from'>=r.n)=true ↔ _
  rw [decide_eq_true_eq]; omega
theorem IW {p:Int} {p2:Slc} {aQ:List Int} {k:KP Int} (R:aC O h L r) (hk:r.keeps.length < 1000000) (I:Imm O h fun h=>SlcAt h p2 (b8 aQ)) (hl:p2.len=aQ.length) (hB:isB aQ) (hz:aQ.length<=1099511627776) (p0:0<=p/\p < 18446744073709551616)
  (H:∀ h' L',Res O h L (r.mU p aQ).1 h' L'->k (r.mU p aQ).2 h'):qc (some ⟨L.b,0,none⟩) p p2 k h:=by
 unfold qc
 rw [if_neg (by simp)]
 unfold RS.mU at H
 refine ⟨_,rfl,_,R.c 6,?_⟩
 show if (decide (p > r.commit))=true then _ else _
 by_cases h1:p > r.commit
 ·rw [if_pos (decide_eq_true h1)]
  rw [if_pos h1] at H
  exact H h L (Res.of R (Stp.refl _ _))
 rw [if_neg (by rw [decide_eq_false h1]; simp)]
 rw [if_neg h1] at H
 refine ⟨_,R.c 4,rP R.p.l p0.1 p0.2 ?_⟩
 by_cases h2:(r.log.aF p).2=0
 ·rw [if_neg (by simpa using h2)]
  rw [if_neg (by simpa using h2)] at H
  have tb:0<=(r.log.aF p).1/\(r.log.aF p).1 < 18446744073709551616:=by
   have:=R.p.l.t0
   unfold Lg.aF
   split
   ·simp
   ·split
    ·simp
    ·split
     ·exact this
     ·rename_i h5 h6 h7
      have hlast:r.log.last=r.log.ix + r.log.es.length:=rfl
      obtain ⟨e,he⟩:∃ e,r.log.es[(p - r.log.ix - 1).toNat]? = some e:=⟨_,List.getElem?_eq_getElem (by omega)⟩
      rw [List.getD_eq_getElem?_getD,he]
      exact (R.p.l.ok _ (List.mem_of_getElem? he)).1
  exact Eh R hk I hl hB hz p0 tb H
 ·rw [if_pos (by simpa using h2)]
  rw [if_pos (by simpa using h2)] at H
  exact H h L (Res.of R (Stp.refl _ _))
end
end Go.Q.Yi
end
section
/- What is to be kept is handed out. -/
namespace Go.Q.Yi
open Rf
section
variable {O O':bz} {h h':Heap} {L:RLy} {r:RS}
/-- what is to be kept is handed out -/
theorem Hf {k:KP Slc} (R:aC O h L r)
  (H:∀ h' ks,Row 0 h' 107 6 L.keeps (ks.flatMap aj.cs)->Imm O h' (fun h=>yx h ks r.keeps)->aC O h' { L with keeps:=⟨none,0,0⟩ } { r with keeps:=[] }->Stp (fun g=>g=L.b) h h'->k L.keeps h'):nX (some ⟨L.b,0,none⟩) k h:=by
 have P:=R.p
 have wf:=R.wf
 unfold nX
 rw [if_neg (by simp)]
 obtain ⟨w,f⟩:=R.k.put (i:=13) (v:=Slc.v ⟨none,0,0⟩) (by show 13 < 14; omega)
 refine ⟨_,rfl,_,R.c 13,_,w,rfl,?_⟩
 obtain ⟨K2,U2⟩:=f _ rfl
 generalize setH h ((⟨L.b,0,none⟩:Addr).add 13) (Slc.v ⟨none,0,0⟩)=h2 at *
 have P2:=P.upd R.k U2 R.Ob (by decide)
 obtain ⟨ks,Kk,Ik⟩:=P2.kp
 refine H h2 ks Kk Ik ⟨K2,⟨P2.l,P2.sn,P2.sl,P2.nx,P2.hs,P2.dj,⟨[],Row.nil _ _ _ _,fun h' _=>⟨rfl,by simp⟩⟩,P2.bl⟩,fun g hg=>?_,fun g hg=>Nat.lt_of_lt_of_le (R.ob g hg) U2.size,⟨wf.n,wf.me,wf.tm,wf.vt,wf.cm,wf.tk,wf.ld,wf.nx,wf.hs,wf.bl,wf.sn,by show 0<=1000000; omega⟩⟩ (.dQ U2 (.inl rfl))
 rcases hg with hg | hg | hg | hg | hg | hg | hg
 ·exact R.ow _ (.inl hg)
 ·exact R.ow _ (.inr (.inl hg))
 ·exact R.ow _ (.inr (.inr (.inl hg)))
 ·exact R.ow _ (.inr (.inr (.inr (.inl hg))))
 ·exact R.ow _ (.inr (.inr (.inr (.inr (.inl hg)))))
 ·simp [Slc.blk] at hg
 ·exact R.ow _ (.inr (.inr (.inr (.inr (.inr (.inr hg))))))
end
end Go.Q.Yi
end
section
/- A member's whole log, of which the log in memory is the part behind the base. -/
namespace Go.Q.Rf
theorem tN {x:Int} (h0:0<=x) (h1:x<=1000000000):W x=x:=aY (by omega) (by omega)
/-- the term at an index; 0 at 0 -/
def tA (F:List Ent) (p:Nat):Int:=if p=0 then 0 else (F.getD (p - 1) (0,[])).1
theorem Jb (F:List Ent):tA F 0=0:=rfl
theorem sO {F:List Ent} {p:Nat} {e:Ent} (h:F[p]? = some e):tA F (p + 1)=e.1:=by
 unfold tA
 rw [if_neg (by omega),Nat.add_sub_cancel,List.getD_eq_getElem?_getD,h]; rfl
theorem tK {F:List Ent} {p k:Nat} (h:p<=k):tA (F.take k) p=tA F p:=by
 unfold tA
 split
 ·rfl
 ·rw [List.getD_eq_getElem?_getD,List.getD_eq_getElem?_getD,List.getElem?_take,if_pos (by omega)]
theorem E8 {F X:List Ent} {p k:Nat} (h:F.take k=X.take k) (hp:p<=k):tA F p=tA X p:=by
 rw [← tK (F:=F) hp,h,tK hp]
theorem xg {F G:List Ent} {p:Nat} (h:p<=F.length):tA (F ++ G) p=tA F p:=by
 unfold tA
 split
 ·rfl
 ·rw [List.getD_eq_getElem?_getD,List.getD_eq_getElem?_getD,List.getElem?_append_left (by omega)]
theorem BH {F:List Ent} {p:Nat} (h1:1<=p) (h2:p<=F.length):∃ e∈F,tA F p=e.1:=by
 have hp:p - 1 < F.length:=by omega
 refine ⟨F[p - 1],List.getElem_mem _,?_⟩
 have:=sO (F:=F) (p:=p - 1) (List.getElem?_eq_getElem hp)
 rwa [show p - 1 + 1=p from by omega] at this
theorem oU {α:Type} {F X:List α} {p k:Nat} (h:F.take k=X.take k) (hp:p<=k):F.take p=X.take p:=by
 rw [show p=min p k from by omega,← List.take_take,h,List.take_take]
/-- the log in memory is the part behind the base -/
structure Rep (F:List Ent) (l:Lg):Prop where
 i0:0<=l.ix
 i1:l.ix.toNat<=F.length
 es:l.es=F.drop l.ix.toNat
 tm:l.tm=tA F l.ix.toNat
section
variable {F X:List Ent} {l:Lg}
theorem Rep.last (R:Rep F l):l.last=F.length:=by
 unfold Lg.last; rw [R.es,List.length_drop]; have:=R.i0; have:=R.i1; omega
theorem Rep.lastT (R:Rep F l):l.lastT=tA F F.length:=by
 unfold Lg.lastT
 rw [R.es]
 have h:=R.i1
 cases hl:(F.drop l.ix.toNat).getLast? with
 | none =>
  rw [List.getLast?_eq_none_iff,List.drop_eq_nil_iff] at hl
  dsimp only
  rw [R.tm,show l.ix.toNat=F.length from by omega]
 | some e =>
  dsimp only
  rw [List.getLast?_eq_getElem?,List.getElem?_drop,List.length_drop] at hl
  have:l.ix.toNat < F.length:=by
   have:=(List.getElem?_eq_some_iff.1 hl).1; omega
  rw [show l.ix.toNat + (F.length - l.ix.toNat - 1)=F.length - 1 from by omega] at hl
  have:=sO hl
  rw [show F.length - 1 + 1=F.length from by omega] at this
  exact this.symm
theorem Rep.aF (R:Rep F l) {p:Int} (h0:0<=p):l.aF p=if p.toNat < l.ix.toNat then (0,13) else if p.toNat > F.length then (0,6) else (tA F p.toNat,0):=by
 unfold Lg.aF
 have i0:=R.i0
 have i1:=R.i1
 rw [R.last]
 by_cases c1:p < l.ix
 ·rw [if_pos c1,if_pos (by omega)]
 rw [if_neg c1,if_neg (show ¬ p.toNat < l.ix.toNat from by omega)]
 by_cases c2:p > (F.length:Int)
 ·rw [if_pos c2,if_pos (by omega)]
 rw [if_neg c2,if_neg (show ¬ p.toNat > F.length from by omega)]
 by_cases c3:p=l.ix
 ·rw [if_pos c3,R.tm,c3]
 rw [if_neg c3,R.es]
 congr 1
 unfold tA
 rw [if_neg (by omega),List.getD_eq_getElem?_getD,List.getD_eq_getElem?_getD,List.getElem?_drop,show l.ix.toNat + (p - l.ix - 1).toNat=p.toNat - 1 from by omega]
theorem Rep.mat (R:Rep F l) {p t:Int} (h0:0<=p):l.mat p t=true ↔ l.ix.toNat<=p.toNat/\p.toNat<=F.length/\tA F p.toNat=t:=by
 unfold Lg.mat
 rw [R.aF h0]
 split
 ·simp; omega
 ·split
  ·simp; omega
  ·simp; omega
theorem Rep.frm (R:Rep F l) {p:Int} {m:Int} (h0:1<=p) (h1:l.ix < p) (h2:p<=F.length + 1):l.frm p m=((F.drop (p.toNat - 1)).take m.toNat,0):=by
 have i0:=R.i0
 have e:(l.aF (p - 1)).2=0:=by rw [R.aF (by omega),if_neg (by omega),if_neg (by omega)]
 unfold Lg.frm
 rw [if_neg (by omega),if_neg (by rw [e]; simp),R.es,List.drop_drop,show l.ix.toNat + (p - 1 - l.ix).toNat=p.toNat - 1 from by omega]
theorem Rep.cut (R:Rep F l) {p:Int} (h0:l.ix<=p) (h1:p<=F.length):(l.cut p).2=0/\Rep F (l.cut p).1/\(l.cut p).1.ix=p:=by
 have i0:=R.i0
 have e:l.aF p=(tA F p.toNat,0):=by rw [R.aF (by omega),if_neg (by omega),if_neg (by omega)]
 unfold Lg.cut
 rw [e,if_neg (by simp)]
 refine ⟨rfl,⟨by show 0<=p; omega,by show p.toNat<=_; omega,?_,rfl⟩,rfl⟩
 show l.es.drop (p - l.ix).toNat=F.drop p.toNat
 rw [R.es,List.drop_drop,show l.ix.toNat + (p - l.ix).toNat=p.toNat from by omega]
/-- what stands behind a merge -/
def mrg (F X:List Ent) (q:Nat):List Ent:=if q<=F.length/\F.take q=X.take q then F else X.take q
theorem Fh {q:Nat} (h:q<=X.length):q<=(mrg F X q).length:=by
 unfold mrg; split
 ·rename_i c; exact c.1
 ·rw [List.length_take]; omega
theorem CS {q:Nat} (h:q<=X.length):(mrg F X q).take q=X.take q:=by
 unfold mrg; split
 ·rename_i c; exact c.2
 ·rw [List.take_take,Nat.min_self]
theorem Rep.fD (R:Rep F l) {p:Nat} {more:List Ent} (mx:∀ i x,more[i]? = some x->X[p + i]? = some x) (ml:p + more.length<=X.length) (bd:X.length<=100000000)
  (eqT:∀ k,1<=k->k<=F.length->k<=X.length->tA F k=tA X k->F.take k=X.take k)
  (h0:max p l.ix.toNat<=F.length) (h1:F.take (max p l.ix.toNat)=X.take (max p l.ix.toNat)) :
  ∀ i,i<=more.length->F.take l.ix.toNat ++ Lg.fD l.ix p l.es more i=(if p + i<=l.ix.toNat then F else mrg F X (p + i))/\(p + i<=l.ix.toNat->Lg.fD l.ix p l.es more i=l.es)
 | 0,_=>by
  have e:F.take l.ix.toNat ++ l.es=F:=by rw [R.es]; exact List.take_append_drop _ _
  refine ⟨?_,fun _=>rfl⟩
  show F.take l.ix.toNat ++ l.es=_
  rw [e]
  split
  ·rfl
  ·unfold mrg
   rw [if_pos ⟨by omega,by rw [Nat.add_zero]; exact oU h1 (by omega)⟩]
 | i + 1,hi=>by
  obtain ⟨ih,ih0⟩:=Rep.fD R mx ml bd eqT h0 h1 i (by omega)
  obtain ⟨x,hx⟩:∃ x,more[i]? = some x:=⟨_,List.getElem?_eq_getElem (by omega)⟩
  have hX:=mx i x hx
  have i0:=R.i0
  have i1:=R.i1
  have wi:W ((p:Int) + i + 1)=p + i + 1:=tN (by omega) (by omega)
  show F.take l.ix.toNat ++ (match more[i]? with | some x=>Lg.dG l.ix p (Lg.fD l.ix p l.es more i) i x | none=>Lg.fD l.ix p l.es more i)=_/\_
  have ev:Lg.fD l.ix p l.es more (i + 1)=Lg.dG l.ix p (Lg.fD l.ix p l.es more i) i x:=by
   show (match more[i]? with | some x=>Lg.dG l.ix p (Lg.fD l.ix p l.es more i) i x | none=>Lg.fD l.ix p l.es more i)=_
   rw [hx]
  rw [hx,ev]
  dsimp only
  unfold Lg.dG
  rw [wi]
  by_cases c:p + (i + 1)<=l.ix.toNat
  ·rw [if_pos (show (p:Int) + i + 1<=l.ix from by omega),if_pos c]
   rw [if_pos (by omega)] at ih
   exact ⟨ih,fun _=>ih0 (by omega)⟩
  rw [if_neg (show ¬ (p:Int) + i + 1<=l.ix from by omega),if_neg c]
  refine ⟨?_,fun q=>absurd q c⟩
  -- now: the log as it stands
  obtain ⟨now,en⟩:∃ now,now=Lg.fD l.ix p l.es more i:=⟨_,rfl⟩
  rw [← en] at ih ⊢
  have tl:(F.take l.ix.toNat).length=l.ix.toNat:=by rw [List.length_take]; omega
  obtain ⟨Fi,eF⟩:∃ Fi,Fi=F.take l.ix.toNat ++ now:=⟨_,rfl⟩
  have ixp:l.ix.toNat<=p + i:=by omega
  have idx:((p:Int) + i + 1 - l.ix - 1).toNat=p + i - l.ix.toNat:=by omega
  rw [idx]
  have get:∀ k,now[k]? = Fi[l.ix.toNat + k]?:=fun k=>by rw [eF,List.getElem?_append_right (by omega),tl,Nat.add_sub_cancel_left]
  have nl:now.length=Fi.length - l.ix.toNat:=by rw [eF,List.length_append,tl]; omega
  have fl:l.ix.toNat<=Fi.length:=by rw [eF,List.length_append,tl]; omega
  have tk:F.take l.ix.toNat ++ now.take (p + i - l.ix.toNat)=Fi.take (p + i):=by
   rw [eF,List.take_append,tl,List.take_of_length_le (l:=F.take l.ix.toNat) (by rw [tl]; exact ixp)]
  rw [← eF] at ih
  have xt:X.take (p + i) ++ [x]=X.take (p + i + 1):=by rw [List.take_add_one,hX]; rfl
  have gX:tA X (p + i + 1)=x.1:=sO hX
  -- what it is by now
  have cases':(Fi=F/\p + i<=F.length/\F.take (p + i)=X.take (p + i))∨(Fi=X.take (p + i)/\¬ (p + i<=F.length/\F.take (p + i)=X.take (p + i))):=by
   by_cases c2:p + i<=l.ix.toNat
   ·rw [if_pos c2] at ih
    exact .inl ⟨ih,by omega,oU h1 (by omega)⟩
   ·rw [if_neg c2] at ih
    unfold mrg at ih
    split at ih
    ·rename_i c3; exact .inl ⟨ih,c3⟩
    ·rename_i c3; exact .inr ⟨ih,c3⟩
  unfold mrg
  rcases cases' with ⟨e1,e2,e3⟩ | ⟨e1,e2⟩
  ·rw [e1] at nl get tk
   by_cases c2:p + i - l.ix.toNat < now.length
   ·rw [if_pos c2]
    have pf:p + i < F.length:=by omega
    have gF:now.getD (p + i - l.ix.toNat) (0,[])=F[p + i]:=by
     rw [List.getD_eq_getElem?_getD,get,show l.ix.toNat + (p + i - l.ix.toNat)=p + i from by omega,List.getElem?_eq_getElem pf]; rfl
    have tF:tA F (p + i + 1)=(F[p + i]).1:=sO (List.getElem?_eq_getElem pf)
    rw [gF]
    by_cases c3:(F[p + i]).1=x.1
    ·rw [if_pos c3,← eF,e1]
     have:=eqT (p + i + 1) (by omega) (by omega) (by omega) (by rw [tF,gX,c3])
     rw [if_pos ⟨by omega,this⟩]
    ·rw [if_neg c3,← List.append_assoc,tk,e3,xt]
     rw [if_neg (fun q=>c3 (by rw [← tF,← gX]; exact E8 q.2 (Nat.le_refl _)))]
     rfl
   ·rw [if_neg c2,← List.append_assoc,← eF,e1]
    have:F.length=p + i:=by omega
    rw [if_neg (by omega)]
    rw [show F ++ [x]=F.take (p + i) ++ [x] from by rw [List.take_of_length_le (by omega)],e3,xt]
    rfl
  ·have xl:(X.take (p + i)).length=p + i:=by rw [List.length_take]; omega
   rw [e1,xl] at nl
   rw [if_neg (show ¬ p + i - l.ix.toNat < now.length from by omega),← List.append_assoc,← eF,e1,xt]
   rw [if_neg (fun q=>e2 ⟨by omega,oU q.2 (by omega)⟩)]
   rfl
/-- an append that fits: the log is merged with the one that it is of -/
theorem Rep.append (R:Rep F l) {p:Nat} {t:Int} {more:List Ent} (mx:∀ i x,more[i]? = some x->X[p + i]? = some x) (ml:p + more.length<=X.length) (bd:X.length<=100000000)
  (eqT:∀ k,1<=k->k<=F.length->k<=X.length->tA F k=tA X k->F.take k=X.take k) (hb:F.take l.ix.toNat=X.take l.ix.toNat) (ht:tA X p=t)
  (ok:(l.append p t more).2.2=0):∃ F',Rep F' (l.append p t more).1/\(l.append p t more).1.ix=l.ix/\(l.append p t more).2.1=((p + more.length:Nat):Int)/\F'=(if p + more.length<=l.ix.toNat then F else mrg F X (p + more.length)) /\
   (l.ix.toNat<=p->p<=F.length/\F.take p=X.take p):=by
 have i0:=R.i0
 have i1:=R.i1
 unfold Lg.append at ok ⊢
 have hm:l.ix.toNat<=p->p<=F.length/\F.take p=X.take p:=fun hp=>by
  by_cases q:l.mat p t=true
  ·obtain ⟨_,q2,q3⟩:=(R.mat (by omega)).1 q
   rw [Int.toNat_natCast] at q2 q3
   refine ⟨q2,?_⟩
   by_cases z:p=0
   ·subst z; simp
   ·exact eqT p (by omega) q2 (by omega) (by rw [q3,ht])
  ·rw [if_pos ⟨by omega,by simpa using q⟩] at ok; simp at ok
 have h0:max p l.ix.toNat<=F.length:=by
  rcases Nat.le_total l.ix.toNat p with c | c
  ·have:=(hm c).1; omega
  ·omega
 have h1:F.take (max p l.ix.toNat)=X.take (max p l.ix.toNat):=by
  rcases Nat.le_total l.ix.toNat p with c | c
  ·rw [Nat.max_eq_left c]; exact (hm c).2
  ·rw [Nat.max_eq_right c]; exact hb
 obtain ⟨k1,k2⟩:=R.fD mx ml bd eqT h0 h1 more.length (Nat.le_refl _)
 by_cases c1:(p:Int)>=l.ix/\l.mat p t=false
 ·rw [if_pos c1] at ok; simp at ok
 rw [if_neg c1] at ok ⊢
 by_cases c2:(Lg.fD l.ix p l.es more more.length).length > 64
 ·rw [if_pos c2] at ok; simp at ok
 rw [if_neg c2]
 refine ⟨F.take l.ix.toNat ++ Lg.fD l.ix p l.es more more.length,⟨i0,?_,?_,?_⟩,rfl,?_,k1,hm⟩
 ·show l.ix.toNat<=(F.take l.ix.toNat ++ _).length
  rw [List.length_append,List.length_take]; omega
 ·show Lg.fD l.ix p l.es more more.length=List.drop l.ix.toNat _
  rw [List.drop_append,List.drop_of_length_le (by rw [List.length_take]; exact Nat.min_le_left _ _),List.length_take,show l.ix.toNat - min l.ix.toNat F.length=0 from by omega,List.nil_append,List.drop_zero]
 ·show l.tm=tA (F.take l.ix.toNat ++ _) l.ix.toNat
  rw [xg (by rw [List.length_take]; omega),tK (Nat.le_refl _)]; exact R.tm
 ·show W ((p:Int) + more.length)=_
  rw [tN (by omega) (by omega)]; omega
end
end Go.Q.Rf
end

/- A part of the proof of statements of this seat: lemmas, no statement of their own. -/
import Derived.Test.YtmmpamfadeonmaaGreatDoorYkZbb
set_option linter.unusedVariables false
set_option linter.unusedSimpArgs false
section
set_option maxRecDepth 100000
/- Journal: records are appended. -/
namespace Go.Q.Yk
variable {B c:Nat} {h h':Heap} {d rn rs pr sr:Nat} {X:DK}
/-- whatever but the disk and the store is as it was -/
structure JF (d rn rs sr:Nat) (h h':Heap):Prop where
 size:h.size<=h'.size
 block:∀ g,g < h.size->g≠d->g≠rn->g≠rs->g≠sr->h'[g]? = h[g]?
theorem JF.of_df (F:DF d rn rs h h'):JF d rn rs sr h h':=⟨F.size,fun g hg a b c _=>F.block g hg a b c⟩
theorem JF.of_ext (E:Ext h.size h h'):JF d rn rs sr h h':=JF.of_df (DF.of_ext E)
theorem JF.trans {h'':Heap} (p:JF d rn rs sr h h') (q:JF d rn rs sr h' h''):JF d rn rs sr h h'' :=
 ⟨Nat.le_trans p.size q.size,fun g hg a b c e=>(q.block g (Nat.lt_of_lt_of_le hg p.size) a b c e).trans (p.block g hg a b c e)⟩
theorem JF.set {i:Nat} {v:Value}:JF d rn rs sr h (setH h ⟨sr,i,none⟩ v):=⟨by rw [setH_size]; exact Nat.le_refl _,fun g _ _ _ _ hs=>setH_other hs⟩
theorem JF.ext (F:JF d rn rs sr h h') (D:DAt B c h d rn rs X) (hs:B<=sr) (hB:B<=h.size):Ext B h h':=⟨F.size,fun g hg=>F.block g (by omega) (by have:=D.bd.1; omega) (by have:=D.bd.2.1; omega) (by have:=D.bd.2.2; omega) (by omega)⟩
theorem StAt.set {fresh:Bool} {e n p:Int} {i:Nat} {v:Value} {cs':List Value} (S:StAt h sr d pr fresh e n p) (hc:(scs d pr fresh e n p).set i v=cs'):Blk (setH h ⟨sr,i,none⟩ v) sr cs' 137:=by
 have:=Blk.set (i:=i) (v:=v) S
 rw [hc] at this
 exact this
theorem StAt.ne {fresh:Bool} {e n p:Int} (S:StAt h sr d pr fresh e n p) (D:DAt B c h d rn rs X):sr≠d/\sr≠rn/\sr≠rs :=
 ⟨fun q=>by subst q; have:=(Blk.inj S D.P).2; omega,blk_map S D.N,blk_map S D.S⟩
theorem StAt.df {fresh:Bool} {e n p:Int} (S:StAt h sr d pr fresh e n p) (D:DAt B c h d rn rs X) (F:DF d rn rs h h'):StAt h' sr d pr fresh e n p :=
 Blk.old S (F.block sr S.lt (S.ne D).1 (S.ne D).2.1 (S.ne D).2.2)
theorem DAt.st {fresh:Bool} {e n p:Int} {i:Nat} {v:Value} (D:DAt B c h d rn rs X) (S:StAt h sr d pr fresh e n p):DAt B c (setH h ⟨sr,i,none⟩ v) d rn rs X :=
 D.keep (setH_other fun q=>(S.ne D).1 q.symm) (setH_other fun q=>(S.ne D).2.1 q.symm) (setH_other fun q=>(S.ne D).2.2 q.symm)
theorem PairAt.st {fresh:Bool} {e n p:Int} {i:Nat} {v:Value} {fr kk:Int} (P:PairAt h pr d fr kk) (S:StAt h sr d pr fresh e n p):PairAt (setH h ⟨sr,i,none⟩ v) pr d fr kk :=
 Blk.old P (setH_other fun q=>by subst q; have:=(Blk.inj P S).2; omega)
/-- a record's sectors -/
def recH (e n:Int) (bs:List Int) (i:Nat):S_journal_head:=⟨e,n,(i:Int),jprtD bs.length,bs.length⟩
def recS (e n:Int) (bs:List Int) (i:Nat):List Int:=jhbD (recH e n bs i) ++ (bs.drop (i * 108)).take 108
theorem recS_le (e n:Int) (bs:List Int) (i:Nat):(recS e n bs i).length<=128:=by
 unfold recS
 rw [List.length_append,jhbD_len]
 have:((bs.drop (i * 108)).take 108).length<=108:=List.length_take_le _ _
 omega
theorem wrUp_stick {p:Int} {g:Nat->List Int} {X:DK} {n:Nat} (e:(wrUp p g X n).1≠0):∀ m,n<=m->wrUp p g X m=wrUp p g X n
 | 0,hm=>by rw [show n=0 by omega]
 | m + 1,hm=>by
  by_cases q:n=m + 1
  ·rw [q]
  ·have ih:=wrUp_stick e m (by omega)
   rw [wrUp,if_pos (by rw [ih]; exact e),ih]
theorem jprt_le {n i:Int} (n0:0<=n) (i0:0<=i) (hi:i < jprtD n):i * 108<=n/\(0 < n->i * 108 < n):=by
 unfold jprtD at hi; split at hi <;> omega
theorem Append_ok {e n p:Int} {s:Slc} {bs:List Int} {k:Int->Heap->Prop} (D:DAt B c h d rn rs X) (S:StAt h sr d pr true e n p) (e0:0<=e) (n0:0<=n/\n < 4294967296) (p0:0<=p)
  (hs:∀ h',JF d rn rs sr h h'->SlcAt h' s (b8 bs)) (sl:s.len=bs.length) (sc:s.len<=s.cap) (bl:bs.length<=4096) (pk:p + jprtD bs.length<=1024)
  (H:∀ c' h' Y r,(r,Y)=wrD p (recS e n bs) X (jprtD bs.length).toNat->c'<=c + 50->DAt B c' h' d rn rs Y->JF d rn rs sr h h'->(r=0->StAt h' sr d pr true e (n + 1) (p + jprtD bs.length))->(r≠0->StAt h' sr d pr false e n p)->k r h') :
  journal_Store_Append (some ⟨sr,0,none⟩) s k h:=by
 have pp:=(jp_bd (n:=(bs.length:Int)) (by omega)).1
 have p40:jprtD bs.length<=40:=by unfold jprtD; split <;> omega
 obtain ⟨N,eN⟩:∃ N:Nat,N=(jprtD bs.length).toNat:=⟨_,rfl⟩
 unfold journal_Store_Append
 rw [if_neg (by simp)]
 refine ⟨_,rfl,true,by rw [add_mk,S.cell]; rfl,?_⟩
 unfold journal_Store_Append_g1
 rw [if_neg (by simp),if_neg (by rw [decide_eq_true_eq]; omega),sl]
 refine ⟨_,rfl,p,by rw [add_mk,S.cell]; rfl,JParts_ok (by omega) (by omega) ⟨by rw [add_mk,S.cell]; rfl,?_⟩⟩
 rw [wrapI64 (x:=p + jprtD bs.length) (by omega) (by omega),if_neg (by rw [decide_eq_true_eq]; omega)]
 refine ⟨_,by rw [add_mk]; exact S.wr (by show _ < 6; omega),rfl,?_⟩
 rw [add_mk]
 have S6:StAt (setH h ⟨sr,0 + 2,none⟩ (.bool false)) sr d pr false e n p:=S.set rfl
 have D6:=D.st (i:=0 + 2) (v:=.bool false) S
 have F6:JF d rn rs sr h (setH h ⟨sr,0 + 2,none⟩ (.bool false)):=JF.set
 generalize setH h ⟨sr,0 + 2,none⟩ (.bool false)=h6 at *
 refine ⟨e,by rw [add_mk,S6.cell]; rfl,n,by rw [add_mk,S6.cell]; rfl,?_⟩
 -- the loop
 have main:∀ h7,Blk h7 h6.size (S_journal_head.cs ⟨e,n,0,jprtD bs.length,bs.length⟩) 152->Ext h6.size h6 h7->journal_Store_Append_j2 (some ⟨sr,0,none⟩) s ⟨h6.size,0,none⟩ k h7:=fun h7 V7 X7=>by
  have S7:StAt h7 sr d pr false e n p:=Blk.ext S6 X7 S6.lt
  have D7:=D6.ext X7
  have F7:JF d rn rs sr h h7:=F6.trans (JF.of_ext X7)
  have vne:h6.size≠d/\h6.size≠rn/\h6.size≠rs/\h6.size≠sr:=⟨by have:=D6.P.lt; omega,by have:=D6.N.lt; omega,by have:=D6.S.lt; omega,by have:=S6.lt; omega⟩
  obtain ⟨hb,ehb⟩:∃ y,y=h6.size:=⟨_,rfl⟩
  rw [← ehb] at V7 vne ⊢
  clear X7
  unfold journal_Store_Append_j2
  refine ⟨jprtD bs.length,by rw [add_mk,V7.cell]; rfl,?_⟩
  unfold journal_Store_Append_l3
  refine ⟨fun i h'=>0<=i/\i<=jprtD bs.length/\JF d rn rs sr h h'/\hb < h'.size/\(∃ pt,Blk h' hb (S_journal_head.cs ⟨e,n,pt,jprtD bs.length,bs.length⟩) 152)/\DAt B (c + i.toNat) h' d rn rs (wrUp p (recS e n bs) X i.toNat).2/\StAt h' sr d pr false e n p/\(wrUp p (recS e n bs) X i.toNat).1=0,fun i _=>(jprtD bs.length - i).toNat,⟨by omega,by omega,F7,V7.lt,⟨0,V7⟩,D7,S7,rfl⟩,?_⟩
  rintro i h8 ⟨i0,i1,F8,hbl,⟨pt,V8⟩,D8,S8,e8⟩
  unfold journal_Store_Append_l3b
  by_cases ci:i < jprtD bs.length
  ·rw [if_pos (by rw [decide_eq_true_eq]; exact ci)]
   obtain ⟨p1,p2⟩:=jprt_le (n:=(bs.length:Int)) (by omega) i0 ci
   refine ⟨_,by rw [add_mk]; exact V8.wr (by show _ < 5; omega),rfl,?_⟩
   rw [add_mk]
   have V9:Blk (setH h8 ⟨hb,0 + 2,none⟩ (.int .i64 i)) hb (S_journal_head.cs ⟨e,n,i,jprtD bs.length,bs.length⟩) 152:=V8.set
   have o9:∀ j,j≠hb->(setH h8 ⟨hb,0 + 2,none⟩ (.int .i64 i))[j]? = h8[j]?:=fun j hj=>setH_other hj
   have z9:(setH h8 ⟨hb,0 + 2,none⟩ (.int .i64 i)).size=h8.size:=setH_size
   generalize setH h8 ⟨hb,0 + 2,none⟩ (.int .i64 i)=h9 at *
   have hge:h.size<=hb:=by have:=F6.size; omega
   have F9:JF d rn rs sr h h9:=⟨by have:=F8.size; omega,fun g hg a b c e=>(o9 g (by omega)).trans (F8.block g hg a b c e)⟩
   have D9:DAt B (c + i.toNat) h9 d rn rs (wrUp p (recS e n bs) X i.toNat).2:=D8.keep (o9 _ (fun e=>vne.1 e.symm)) (o9 _ (fun e=>vne.2.1 e.symm)) (o9 _ (fun e=>vne.2.2.1 e.symm))
   have S9:StAt h9 sr d pr false e n p:=Blk.old S8 (o9 _ (fun e=>vne.2.2.2 e.symm))
   refine ⟨_,rfl,some ⟨d,0,none⟩,by rw [S9.cell]; rfl,p,by rw [add_mk,S9.cell]; rfl,_,CellsAt.of_blk V9,?_⟩
   rw [sl,wrapI64 (x:=i * 108) (by omega) (by omega),wrapI64 (x:=i * 108 + 108) (by omega) (by omega)]
   obtain ⟨hi,ehi⟩:∃ hi:Nat,(if i * 108 + 108 < ((bs.length:Nat):Int) then i * 108 + 108 else ((bs.length:Nat):Int))=(hi:Int):=⟨(if i * 108 + 108 < ((bs.length:Nat):Int) then i * 108 + 108 else ((bs.length:Nat):Int)).toNat,by split <;> omega⟩
   rw [ehi]
   have hb1:i * 108<=hi/\hi<=bs.length/\(bs.drop (i * 108).toNat).take (hi - (i * 108).toNat)=(bs.drop (i.toNat * 108)).take 108:=by
    rw [show (i * 108).toNat=i.toNat * 108 from by omega]
    by_cases q:i * 108 + 108 < ((bs.length:Nat):Int)
    ·rw [if_pos q] at ehi
     refine ⟨by omega,by omega,?_⟩
     rw [show hi - i.toNat * 108=108 from by omega]
    ·rw [if_neg q] at ehi
     refine ⟨by omega,by omega,?_⟩
     rw [List.take_of_length_le (by rw [List.length_drop]; omega),List.take_of_length_le (by rw [List.length_drop]; omega)]
   refine ⟨_,by omega,hb1.1,by omega,by omega,rfl,?_⟩
   have S2:=hs h9 F9
   have Sc:=SlcAt.sub (w:=1) (l:=(i * 108).toNat) (u:=(hi:Int).toNat) (m:=((s.cap:Nat):Int).toNat) S2 (by omega) (by omega)
   rw [Nat.mul_one,Nat.mul_one,← List.map_drop,← List.map_take,Int.toNat_natCast hi,hb1.2.2] at Sc
   have lch:(subS s 1 (i * 108).toNat ((hi:Nat):Int).toNat ((s.cap:Nat):Int).toNat).len=((bs.drop (i.toNat * 108)).take 108).length:=by
    rw [← hb1.2.2,List.length_take,List.length_drop]
    show ((hi:Nat):Int).toNat - (i * 108).toNat=_
    rw [Int.toNat_natCast]; omega
   rw [Int.toNat_natCast hi] at lch ⊢
   generalize subS s 1 (i * 108).toNat hi ((s.cap:Nat):Int).toNat=s36 at *
   have lc108:((bs.drop (i.toNat * 108)).take 108).length<=108:=List.length_take_le _ _
   refine JHeadB_ok ⟨e0,n0.1,⟨i0,by show i < 65536; omega⟩,⟨by show 0<=jprtD _; omega,by show jprtD _ < 65536; omega⟩,⟨by show (0:Int)<=(bs.length:Int); omega,by show (bs.length:Int) < 4294967296; omega⟩⟩ fun s37 h38 R37 X38=>?_
   have z38:=X38.size
   have S38:StAt h38 sr d pr false e n p:=Blk.ext S9 X38 S9.lt
   refine ⟨by rw [add_mk,S38.cell]; rfl,by rw [S38.cell]; rfl,_,_,rfl,rfl,?_⟩
   have V:=Blk.push h38 [Slc.v s37,Slc.v s36] 28
   have W:=Ext.push h38 (.cells ([Slc.v s37,Slc.v s36]:List Value).toArray 28) (Nat.le_refl _)
   generalize h38.push (.cells ([Slc.v s37,Slc.v s36]:List Value).toArray 28)=h42 at *
   have z42:=W.size
   have S42:StAt h42 sr d pr false e n p:=Blk.ext S38 W S38.lt
   have lhb:=jhbD_len ⟨e,n,i,jprtD bs.length,bs.length⟩
   refine ⟨by rw [add_mk,S42.cell]; rfl,by rw [S42.cell]; rfl,?_⟩
   refine Concat_ok (L:=[(s37,jhbD ⟨e,n,i,jprtD bs.length,bs.length⟩),(s36,(bs.drop (i.toNat * 108)).take 108)]) (V.slc (o:=0) (n:=2) rfl) rfl (fun q hq=>?_) (by simp) (by
    have:flatS [(s37,jhbD ⟨e,n,i,jprtD bs.length,bs.length⟩),(s36,(bs.drop (i.toNat * 108)).take 108)]=jhbD ⟨e,n,i,jprtD bs.length,bs.length⟩ ++ (bs.drop (i.toNat * 108)).take 108:=by simp [flatS]
    rw [this,List.length_append,lhb]; omega) fun s43 h44 R44 X44=>?_
   ·rcases List.mem_cons.1 hq with rfl | hq
    ·exact ⟨(R37.slc).ext W,Row.pb R37⟩
    ·rw [List.mem_singleton] at hq; subst hq
     exact ⟨(Sc.ext X38).ext W,lch⟩
   ·have ef:flatS [(s37,jhbD ⟨e,n,i,jprtD bs.length,bs.length⟩),(s36,(bs.drop (i.toNat * 108)).take 108)]=recS e n bs i.toNat:=by
     unfold recS recH
     rw [show ((i.toNat:Nat):Int)=i from by omega]
     simp [flatS]
    rw [ef] at R44
    have E:=(X38.trans (W.mono z38)).trans (X44.mono (by omega))
    have S44:StAt h44 sr d pr false e n p:=Blk.ext S9 E S9.lt
    have D44:=D9.ext E
    have V44:=V9.ext E V9.lt
    have F44:=F9.trans (JF.of_ext E)
    refine ⟨by rw [add_mk,S44.cell]; rfl,by rw [S44.cell]; rfl,?_⟩
    rw [wrapI64 (x:=p + i) (by omega) (by omega)]
    refine DWrite_ok D44 R44.slc (Row.pb R44) fun h3 D3 F3=>?_
    have V3:=V44.old (F3.block _ V44.lt vne.1 vne.2.1 vne.2.2.1)
    have S3:=S44.df D44 F3
    have F03:=F44.trans (JF.of_df F3)
    have eu:wrUp p (recS e n bs) X (i.toNat + 1)=writeD (wrUp p (recS e n bs) X i.toNat).2 (p + i) (recS e n bs i.toNat):=by
     rw [wrUp,if_neg (by rw [e8]; simp),show ((i.toNat:Nat):Int)=i from by omega]
    rw [← eu] at D3 ⊢
    by_cases er:(wrUp p (recS e n bs) X (i.toNat + 1)).1=0
    ·rw [if_neg (by simpa using er),wrapI64 (by omega) (by omega)]
     refine ⟨⟨by omega,by omega,F03,V3.lt,⟨i,V3⟩,?_,S3,?_⟩,by dsimp only; omega⟩
     ·rw [show (i + 1).toNat=i.toNat + 1 from by omega]; exact D3
     ·rw [show (i + 1).toNat=i.toNat + 1 from by omega]; exact er
    ·rw [if_pos (by simpa using er)]
     have st:=wrUp_stick er (jprtD bs.length).toNat (by omega)
     refine H (c + i.toNat + 1) h3 _ _ ?_ (by omega) D3 F03 (fun q=>absurd q er) (fun _=>S3)
     unfold wrD
     rw [if_pos (by rw [st]; exact er),st]
  ·rw [if_neg (by rw [decide_eq_true_eq]; exact ci)]
   have iN:i.toNat=(jprtD bs.length).toNat:=by omega
   refine ⟨_,rfl,some ⟨d,0,none⟩,by rw [S8.cell]; rfl,?_⟩
   refine DSync_ok D8 fun h9 D9 F9=>?_
   have S9:=S8.df D8 F9
   have V9:=V8.old (F9.block _ V8.lt vne.1 vne.2.1 vne.2.2.1)
   have ew:wrD p (recS e n bs) X (jprtD bs.length).toNat=syncD (wrUp p (recS e n bs) X i.toNat).2:=by
    unfold wrD
    rw [← iN,if_neg (by rw [e8]; simp)]
   have F09:=F8.trans (JF.of_df F9)
   rw [← ew] at D9 ⊢
   by_cases er:(wrD p (recS e n bs) X (jprtD bs.length).toNat).1=0
   ·rw [if_neg (by simpa using er)]
    refine ⟨n,by rw [add_mk,S9.cell]; rfl,p,by rw [add_mk,S9.cell]; rfl,jprtD bs.length,by rw [add_mk,V9.cell]; rfl,_,by rw [add_mk]; exact S9.wr (by show _ < 6; omega),rfl,?_⟩
    rw [add_mk,add_mk,add_mk,add_mk]
    have S10:StAt (setH h9 ⟨sr,0 + 2,none⟩ (.bool true)) sr d pr true e n p:=S9.set rfl
    have D10:=D9.st (i:=0 + 2) (v:=.bool true) S9
    have V10:Blk (setH h9 ⟨sr,0 + 2,none⟩ (.bool true)) hb _ 152:=V9.old (setH_other vne.2.2.2)
    have F10:JF d rn rs sr h9 (setH h9 ⟨sr,0 + 2,none⟩ (.bool true)):=JF.set
    generalize setH h9 ⟨sr,0 + 2,none⟩ (.bool true)=h10 at *
    refine ⟨by rw [V10.cell]; rfl,_,S10.wr (by show _ < 6; omega),rfl,?_⟩
    rw [wrapU64 (x:=n + 1) (by omega) (by omega),wrapI64 (x:=p + jprtD bs.length) (by omega) (by omega)]
    have S11:StAt (setH h10 ⟨sr,0 + 4,none⟩ (.int .u64 (n + 1))) sr d pr true e (n + 1) p:=S10.set rfl
    have D11:=D10.st (i:=0 + 4) (v:=.int .u64 (n + 1)) S10
    have V11:Blk (setH h10 ⟨sr,0 + 4,none⟩ (.int .u64 (n + 1))) hb _ 152:=V10.old (setH_other vne.2.2.2)
    have F11:JF d rn rs sr h10 (setH h10 ⟨sr,0 + 4,none⟩ (.int .u64 (n + 1))):=JF.set
    generalize setH h10 ⟨sr,0 + 4,none⟩ (.int .u64 (n + 1))=h11 at *
    refine ⟨by rw [V11.cell]; rfl,_,S11.wr (by show _ < 6; omega),rfl,?_⟩
    have S12:StAt (setH h11 ⟨sr,0 + 5,none⟩ (.int .i64 (p + jprtD bs.length))) sr d pr true e (n + 1) (p + jprtD bs.length):=S11.set rfl
    have D12:=D11.st (i:=0 + 5) (v:=.int .i64 (p + jprtD bs.length)) S11
    have F12:JF d rn rs sr h11 (setH h11 ⟨sr,0 + 5,none⟩ (.int .i64 (p + jprtD bs.length))):=JF.set
    generalize setH h11 ⟨sr,0 + 5,none⟩ (.int .i64 (p + jprtD bs.length))=h12 at *
    exact H (c + i.toNat) h12 (wrD p (recS e n bs) X (jprtD bs.length).toNat).2 0 (Prod.ext er.symm rfl) (by omega) D12 (((F09.trans F10).trans F11).trans F12) (fun _=>S12) (fun q=>absurd rfl q)
   ·rw [if_pos (by simpa using er)]
    exact H (c + i.toNat) h9 _ _ rfl (by omega) D9 F09 (fun q=>absurd q er) (fun _=>S8.df D8 F9)
 have zz:=F6.size
 constructor
 ·refine JParts_ok (by omega) (by omega) ⟨by rw [add_mk,S6.cell]; rfl,by rw [add_mk,S6.cell]; rfl,_,_,rfl,rfl,?_⟩
  have V:=Blk.push h6 (S_journal_head.cs ⟨0,0,0,0,0⟩) 152
  have W:=Ext.push h6 (.cells (S_journal_head.cs ⟨0,0,0,0,0⟩).toArray 152) (Nat.le_refl _)
  generalize h6.push (.cells (S_journal_head.cs ⟨0,0,0,0,0⟩).toArray 152)=h7 at *
  have S7:StAt h7 sr d pr false e n p:=Blk.ext S6 W S6.lt
  refine ⟨by rw [add_mk,S7.cell]; rfl,by rw [add_mk,S7.cell]; rfl,_,WrsAt.of_blk V (by show 5<=5; omega),rfl,?_⟩
  exact main _ (V.sets_all rfl) (W.trans (Ext.sets _ _ _ (Nat.le_refl _)))
 ·refine ⟨_,_,rfl,rfl,?_⟩
  have V:=Blk.push h6 (S_journal_head.cs ⟨0,0,0,0,0⟩) 152
  have W:=Ext.push h6 (.cells (S_journal_head.cs ⟨0,0,0,0,0⟩).toArray 152) (Nat.le_refl _)
  generalize h6.push (.cells (S_journal_head.cs ⟨0,0,0,0,0⟩).toArray 152)=h7 at *
  have S7:StAt h7 sr d pr false e n p:=Blk.ext S6 W S6.lt
  refine ⟨by rw [add_mk,S7.cell]; rfl,by rw [add_mk,S7.cell]; rfl,JParts_ok (by omega) (by omega) ⟨by rw [add_mk,S7.cell]; rfl,by rw [add_mk,S7.cell]; rfl,_,WrsAt.of_blk V (by show 5<=5; omega),rfl,?_⟩⟩
  exact main _ (V.sets_all rfl) (W.trans (Ext.sets _ _ _ (Nat.le_refl _)))
theorem JOpen_ok {k:Option Addr × Int->Heap->Prop} (H:∀ pr sr h',PairAt h' pr d 0 256->StAt h' sr d pr false 0 0 0->Ext h.size h h'->h.size<=pr->h.size<=sr->k (some ⟨sr,0,none⟩,0) h'):journal_Open (some ⟨d,0,none⟩) k h:=by
 unfold journal_Open
 refine Open_ok (by omega) (by omega) (fun e=>absurd e (by decide)) fun _ pr h2 P2 X2 pb=>?_
 rw [if_neg (by simp)]
 refine ⟨_,_,rfl,rfl,?_⟩
 have V:=Blk.push h2 (scs d pr false 0 0 0) 137
 have W:=Ext.push h2 (.cells (scs d pr false 0 0 0).toArray 137) (Nat.le_refl _)
 have z2:=X2.size
 exact H pr h2.size _ (Blk.ext P2 W P2.lt) V (X2.trans (W.mono z2)) pb z2
theorem Begin_ok {fresh:Bool} {e n p e2:Int} {k:Unit->Heap->Prop} (D:DAt B c h d rn rs X) (P:PairAt h pr d 0 256) (S:StAt h sr d pr fresh e n p) (H:∀ h',DAt B c h' d rn rs X->PairAt h' pr d 0 256->StAt h' sr d pr true e2 0 512->JF d rn rs sr h h'->k () h'):journal_Store_begin (some ⟨sr,0,none⟩) e2 k h:=by
 unfold journal_Store_begin
 refine ⟨_,rfl,_,by rw [add_mk]; exact S.wr (by show _ < 6; omega),rfl,?_⟩
 simp only [add_mk]
 have S1:StAt (setH h ⟨sr,0 + 3,none⟩ (.int .u64 e2)) sr d pr fresh e2 n p:=S.set rfl
 have D1:=D.st (i:=0 + 3) (v:=.int .u64 e2) S
 have P1:=P.st (i:=0 + 3) (v:=.int .u64 e2) S
 have F1:JF d rn rs sr h (setH h ⟨sr,0 + 3,none⟩ (.int .u64 e2)):=JF.set
 generalize setH h ⟨sr,0 + 3,none⟩ (.int .u64 e2)=h1 at *
 refine ⟨_,S1.wr (by show _ < 6; omega),rfl,?_⟩
 have S2:StAt (setH h1 ⟨sr,0 + 4,none⟩ (.int .u64 0)) sr d pr fresh e2 0 p:=S1.set rfl
 have D2:=D1.st (i:=0 + 4) (v:=.int .u64 0) S1
 have P2:=P1.st (i:=0 + 4) (v:=.int .u64 0) S1
 have F2:JF d rn rs sr h1 (setH h1 ⟨sr,0 + 4,none⟩ (.int .u64 0)):=JF.set
 generalize setH h1 ⟨sr,0 + 4,none⟩ (.int .u64 0)=h2 at *
 refine ⟨_,S2.wr (by show _ < 6; omega),rfl,?_⟩
 have S3:StAt (setH h2 ⟨sr,0 + 5,none⟩ (.int .i64 512)) sr d pr fresh e2 0 512:=S2.set rfl
 have D3:=D2.st (i:=0 + 5) (v:=.int .i64 512) S2
 have P3:=P2.st (i:=0 + 5) (v:=.int .i64 512) S2
 have F3:JF d rn rs sr h2 (setH h2 ⟨sr,0 + 5,none⟩ (.int .i64 512)):=JF.set
 generalize setH h2 ⟨sr,0 + 5,none⟩ (.int .i64 512)=h3 at *
 refine ⟨_,S3.wr (by show _ < 6; omega),rfl,?_⟩
 have S4:StAt (setH h3 ⟨sr,0 + 2,none⟩ (.bool true)) sr d pr true e2 0 512:=S3.set rfl
 exact H _ (D3.st S3) (P3.st S3) S4 (((F1.trans F2).trans F3).trans JF.set)
theorem JSave_ok {fresh:Bool} {e n p:Int} {s:Slc} {bs:List Int} {k:Int->Heap->Prop} (D:DAt B c h d rn rs X) (P:PairAt h pr d 0 256) (S:StAt h sr d pr fresh e n p) (r:R0 h) (g:GoodX X)
  (hs:∀ h',JF d rn rs sr h h'->SlcAt h' s (b8 bs)) (sl:s.len=bs.length) (sc:s.len<=s.cap) (bl:bs.length<=60000)
  (H:∀ rr Y c' h',LayR X 0 256 bs false rr Y->c'<=c + 600->DAt B c' h' d rn rs Y->PairAt h' pr d 0 256->JF d rn rs sr h h'->(rr.2=0->StAt h' sr d pr true rr.1 0 512)->(rr.2≠0->StAt h' sr d pr false e n p)->k rr.2 h'):journal_Store_Save (some ⟨sr,0,none⟩) s k h:=by
 unfold journal_Store_Save
 rw [if_neg (by simp)]
 refine ⟨_,rfl,some ⟨pr,0,none⟩,by rw [add_mk,S.cell]; rfl,?_⟩
 refine Save_ok D P r g (by omega) (by omega) (fun h' F=>hs h' (JF.of_df F)) sl sc bl fun rr Y c' h1 L hc D1 F1=>?_
 have S1:=S.df D F1
 have P1:=P.df D F1
 by_cases er:rr.2=0
 ·rw [if_neg (by simpa using er)]
  refine Begin_ok D1 P1 S1 fun h2 D2 P2 S2 F2=>?_
  have:=H rr Y c' h2 L hc D2 P2 ((JF.of_df F1).trans F2) (fun _=>S2) (fun q=>absurd er q)
  rw [er] at this
  exact this
 ·rw [if_pos (by simpa using er)]
  refine ⟨_,by rw [add_mk]; exact S1.wr (by show _ < 6; omega),rfl,?_⟩
  rw [add_mk]
  exact H rr Y c' _ L hc (D1.st S1) (P1.st S1) ((JF.of_df F1).trans JF.set) (fun q=>absurd q er) (fun _=>S1.set rfl)
/-- the records that stand from a place on -/
inductive Stands (X:DK) (e:Int):Int->Int->List (List Int)->Prop where
 | nil {n p:Int}:¬ RecW X e n p->Stands X e n p []
 | cons {n p:Int} {b:List Int} {l:List (List Int)}:RecW X e n p->outR X p=b->Stands X e (n + 1) (p + jprtD b.length) l->Stands X e n p (b :: l)
/-- rows of bytes in memory -/
structure Recs (B:Nat) (h:Heap) (s:Slc) (l:List (List Int)) (ys:List Slc):Prop where
 n:ys.length=l.length
 r:Row B h 28 1 s (ys.map Slc.v)
 row:∀ (i:Nat) y b,ys[i]? = some y->l[i]? = some b->SlcAt h y (b8 b)/\(y.len=b.length/\y.len<=y.cap)/\∀ a,y.a=some a->B<=a.block/\a.block < h.size/\s.blk≠some a.block
end Go.Q.Yk
end
section
set_option maxRecDepth 100000
/- Journal: what is recovered. -/
namespace Go.Q.Yk
variable {B c:Nat} {h h':Heap} {d rn rs pr sr:Nat} {X:DK}
theorem rd_range {a:Int} (e:(readD X a).2=0):0<=a/\a < 1024:=by
 unfold readD at e
 split at e
 ·cases e
 ·omega
theorem rec_len {e n p:Int} (g:GoodX X) (w:RecW X e n p):(outR X p).length=(rh X p).f_size.toNat/\p + jprtD ((outR X p).length:Int)<=1024:=by
 have hd:=rh_bd g p
 have q:=w.2.1
 have jb:=jp_bd hd.1
 have lz:=catR_len (X:=X) (p:=p) (rh X p).f_parts.toNat fun i hi=>(w.2.2 i (by omega)).1
 have l:(outR X p).length=(rh X p).f_size.toNat:=by unfold outR; rw [List.length_take,lz]; omega
 refine ⟨l,?_⟩
 rw [l,show (((rh X p).f_size.toNat:Nat):Int)=(rh X p).f_size from by omega,← q]
 have:=rd_range (w.2.2 ((rh X p).f_parts.toNat - 1) (by omega)).1
 omega
theorem Recs.ext {B:Nat} {h h':Heap} {s:Slc} {l:List (List Int)} {ys:List Slc} (K:Recs B h s l ys) (X:Ext h.size h h'):Recs B h' s l ys :=
 ⟨K.n,K.r.ext X fun g hg=>(K.r.bd hg).2,fun i y b hy hb=>by
  obtain ⟨a1,a2,a3⟩:=K.row i y b hy hb
  exact ⟨a1.ext X,a2,fun a ha=>by
   obtain ⟨q1,q2,q3⟩:=a3 a ha
   exact ⟨q1,by have:=X.size; omega,q3⟩⟩⟩
theorem RecLoop_ok {fresh:Bool} {e' n' p' e:Int} {img:Slc} {l:List (List Int)} {k:Slc × Slc × Int->Heap->Prop} (D:DAt B c h d rn rs X) (S:StAt h sr d pr fresh e' n' p') (g:GoodX X) (L:Stands X e 0 512 l) (ll:l.length<=1000)
  (H:∀ s' h' ys,Recs h.size h' s' l ys->Ext h.size h h'->k (img,s',0) h'):journal_Store_Recover_l1 (some ⟨sr,0,none⟩) img e ⟨none,0,0⟩ 512 0 k h:=by
 unfold journal_Store_Recover_l1
 refine ⟨fun q h'=>∃ (dn rest:List (List Int)) (ys:List Slc),Recs h.size h' q.1 dn ys/\Stands X e q.2.2 q.2.1 rest/\dn ++ rest=l/\0<=q.2.1/\q.2.1<=1024/\q.2.2=(dn.length:Int)/\Ext h.size h h',fun q _=>l.length - q.2.2.toNat,⟨[],l,[],⟨rfl,Row.nil _ _ _ _,fun i y b hy=>by simp at hy⟩,L,rfl,by dsimp only; omega,by dsimp only; omega,rfl,Ext.refl _ _⟩,?_⟩
 rintro out p n h1 ⟨dn,rest,ys,K,St,el,p0,p1,en,X1⟩
 dsimp only at K St p0 p1 en
 have z1:=X1.size
 have D1:=D.ext X1
 have S1:StAt h1 sr d pr fresh e' n' p':=Blk.ext S X1 S.lt
 have lds:dn.length + rest.length=l.length:=by rw [← el,List.length_append]
 unfold journal_Store_Recover_l1b
 refine Rec_ok D1 S1 g ⟨p0,by omega⟩ (fun no h2 X2=>?_) (fun w s h2 Sb lb cb fb X2=>?_)
 ·rw [if_pos (by simp)]
  cases St with
  | nil _ =>
   rw [List.append_nil] at el
   subst el
   exact H out h2 ys (K.ext X2) (X1.trans (X2.mono z1))
  | cons w _ _=>exact absurd w no
 ·rw [if_neg (by simp)]
  cases St with
  | nil no=>exact absurd w no
  | @cons _ _ b l' _ eb St' =>
   have z2:=X2.size
   obtain ⟨rl,rp⟩:=rec_len g w
   rw [eb] at Sb lb rp rl
   refine ⟨_,_,rfl,rfl,?_⟩
   have W3:=Ext.push h2 (.cells ([Slc.v s]:List Value).toArray 28) (Nat.le_refl _)
   have K3:=(K.ext X2).ext W3
   have Sb3:=Sb.ext W3
   generalize h2.push (.cells ([Slc.v s]:List Value).toArray 28)=h3 at *
   have z3:=W3.size
   have lt:out.len=dn.length:=by have:=K3.r.len; rw [this,List.length_map,K3.n]
   have ld:dn.length < l.length:=by rw [← el,List.length_append]; simp
   dsimp only
   refine App.row2 K3.r (by omega) rfl (by simp) (fun x hx=>by rw [List.mem_singleton] at hx; rw [hx]; rfl) (by omega) (by simp only [maxLen]; omega) fun t' h4 R4 l4 z4 kp bl _=>?_
   have jb:=jp_bd (n:=(b.length:Int)) (by omega)
   have hdb:=rh_bd g p
   rw [lb]
   refine JParts_ok (by omega) (by omega) ⟨_,rfl,_,rfl,?_⟩
   rw [wrapI64 (x:=p + jprtD b.length) (by omega) (by omega),wrapU64 (x:=n + 1) (by omega) (by omega)]
   -- what was there stays
   have keep:∀ a:Addr,a.block < h3.size->out.blk≠some a.block->h4[a.block]? = h3[a.block]?/\t'.blk≠some a.block:=fun a ha hn=>by
    refine ⟨kp _ ha hn,?_⟩
    rcases bl with ⟨q,_⟩ | q
    ·rw [q]; exact hn
    ·rw [q]; intro q2; have:=Option.some.inj q2; omega
   have ob:∀ g,out.blk=some g->g < h1.size:=fun g hg=>(K.r.bd hg).2
   have sk:∀ {y:Slc} {b:List Int},SlcAt h3 y (b8 b)->(∀ a,y.a=some a->a.block < h3.size/\out.blk≠some a.block)->SlcAt h4 y (b8 b):=fun {y b} Sy hy=>⟨Sy.1,fun a ha j v hj=>by
    obtain ⟨q1,q2⟩:=hy a ha
    have eb:(a.add j).block=a.block:=by unfold Addr.add; split <;> rfl
    have q:=(keep a q1 q2).1
    rw [← eb] at q
    rw [cellH_of q]
    exact Sy.2 a ha j v hj⟩
   refine ⟨⟨dn ++ [b],l',ys ++ [s],⟨by simp [K.n],by rw [List.map_append]; exact R4,fun i y b' hy hb'=>?_⟩,by rw [en] at St' ⊢; exact St',by rw [List.append_assoc]; exact el,by omega,by omega,by rw [List.length_append,List.length_singleton]; omega,?_⟩,by omega⟩
   ·have en':=K.n
    by_cases ci:i < ys.length
    ·rw [List.getElem?_append_left ci] at hy
     rw [List.getElem?_append_left (by omega)] at hb'
     obtain ⟨a1,a2,a3⟩:=K3.row i y b' hy hb'
     exact ⟨sk a1 fun a ha=>⟨(a3 a ha).2.1,(a3 a ha).2.2⟩,a2,fun a ha=>⟨(a3 a ha).1,by have:=(a3 a ha).2.1; omega,(keep a (a3 a ha).2.1 (a3 a ha).2.2).2⟩⟩
    ·have ei:i=ys.length:=by
      have:=(List.getElem?_eq_some_iff.1 hy).1
      rw [List.length_append,List.length_singleton] at this
      omega
     rw [ei,List.getElem?_append_right (Nat.le_refl _),Nat.sub_self] at hy
     rw [ei,en',List.getElem?_append_right (Nat.le_refl _),Nat.sub_self] at hb'
     cases hy
     cases hb'
     have nw:∀ a,s.a=some a->a.block < h3.size/\out.blk≠some a.block:=fun a ha=>⟨by have:=(fb a ha).2; omega,fun q=>by have:=ob _ q; have:=(fb a ha).1; omega⟩
     exact ⟨sk Sb3 nw,⟨lb,cb⟩,fun a ha=>⟨by have:=(fb a ha).1; omega,by have:=(nw a ha).1; omega,(keep a (nw a ha).1 (nw a ha).2).2⟩⟩
   ·refine X1.trans ⟨by omega,fun g hg=>?_⟩
    exact (kp g (by omega) fun q=>by have:=(K3.r.bd q).1; omega).trans ((W3.block g (by omega)).trans (X2.block g (by omega)))
theorem Recover_ok {fresh:Bool} {e' n' p':Int} {slot:Int} {l:List (List Int)} {k:Slc × Slc × Int->Heap->Prop} (D:DAt B c h d rn rs X) (P:PairAt h pr d 0 256) (S:StAt h sr d pr fresh e' n' p') (r:R0 h) (g:GoodX X) (b:BP X 0 256 slot)
  (L:0<=slot->Stands X (numW X 0 256 slot) 0 512 l) (ll:l.length<=1000)
  (H0:slot = -1->∀ h',Ext h.size h h'->k (⟨none,0,0⟩,⟨none,0,0⟩,6) h')
  (H1:0<=slot->∀ img s' h' ys,SlcAt h' img (b8 (outW X (0 + slot * 256)))->img.len=(outW X (0 + slot * 256)).length/\img.len<=img.cap->Recs h.size h' s' l ys->Ext h.size h h'->k (img,s',0) h'):journal_Store_Recover (some ⟨sr,0,none⟩) k h:=by
 unfold journal_Store_Recover
 rw [if_neg (by simp)]
 refine ⟨_,rfl,some ⟨pr,0,none⟩,by rw [add_mk,S.cell]; rfl,?_⟩
 refine Load_ok D P r g (by omega) (by omega) fun s sl n h1 bz X1=>?_
 have es:s=slot:=bp_uniq bz.bp b
 by_cases s0:s < 0
 ·rw [if_pos s0]
  rw [if_pos (by simp)]
  refine H0 ?_ h1 X1
  rcases bz with ⟨q,_⟩ | ⟨q,_⟩ | ⟨q,_⟩ <;> omega
 ·rw [if_neg s0]
  rw [if_neg (by simp)]
  have T:ToldW h h1 X 0 256 s sl n:=by
   rcases bz with ⟨q,_⟩ | ⟨q,T,_⟩ | ⟨q,T,_⟩
   ·omega
   ·rw [q]; exact T
   ·rw [q]; exact T
  have L':=L (by omega)
  rw [← es,← T.n] at L'
  dsimp only
  refine RecLoop_ok (D.ext X1) (Blk.ext S X1 S.lt) g L' ll fun s' h2 ys K X2=>?_
  have z:=X1.size
  refine H1 (by omega) sl s' h2 ys ?_ ⟨by rw [← es]; exact T.l,T.c⟩ ⟨K.n,K.r.mono z,fun i y b' hy hb'=>?_⟩ (X1.trans (X2.mono z))
  ·rw [← es]; exact T.S.ext X2
  ·obtain ⟨a1,a2,a3⟩:=K.row i y b' hy hb'
   exact ⟨a1,a2,fun a ha=>⟨by have:=(a3 a ha).1; omega,(a3 a ha).2⟩⟩
end Go.Q.Yk
end
section
set_option maxRecDepth 100000
/- Journal: records and the pair, plainly. -/
namespace Go.Q.Yk
/-! ### records -/
theorem jhd_sec {e n:Int} {bs:List Int} {i:Nat} (he:0<=e/\e < 18446744073709551616) (hn:0<=n/\n < 4294967296) (hi:i < 65536) (bl:bs.length<=60000) :
  jhdD (padB (recS e n bs i))=recH e n bs i:=by
 have jq:0<=jprtD bs.length/\jprtD bs.length < 65536:=by unfold jprtD; split <;> omega
 unfold padB recS
 generalize (bs.drop (i * 108)).take 108=r
 generalize List.replicate (128 - (jhbD (recH e n bs i) ++ r).length) (0:Int)=z
 have e1:fld (jhbD (recH e n bs i) ++ r ++ z) 0 8=e:=(show numL (formL e 8)=_ from numL_form8 he.1 he.2)
 have e2:fld (jhbD (recH e n bs i) ++ r ++ z) 8 4=n:=(show numL (formL n 4)=_ from numL_form4 hn.1 hn.2)
 have e3:fld (jhbD (recH e n bs i) ++ r ++ z) 12 2=(i:Int):=(show numL (formL (i:Int) 2)=_ from numL_form2 (by omega) (by omega))
 have e4:fld (jhbD (recH e n bs i) ++ r ++ z) 14 2=jprtD bs.length:=(show numL (formL (jprtD bs.length) 2)=_ from numL_form2 jq.1 jq.2)
 have e5:fld (jhbD (recH e n bs i) ++ r ++ z) 16 4=(bs.length:Int):=(show numL (formL (bs.length:Int) 4)=_ from numL_form4 (by omega) (by omega))
 unfold jhdD
 rw [e1,e2,e3,e4,e5]
 rfl
theorem jdrop_sec (e n:Int) (bs:List Int) (i:Nat):(padB (recS e n bs i)).drop 20=(bs.drop (i * 108)).take 108 ++ List.replicate (128 - (recS e n bs i).length) 0:=by
 unfold padB
 have h:(jhbD (recH e n bs i)).length=20:=jhbD_len _
 conv=>lhs; unfold recS
 rw [List.append_assoc,List.drop_append_of_le_length (by omega),List.drop_of_length_le (by omega),List.nil_append]
 rfl
theorem recS_B {e n:Int} {bs:List Int} {i:Nat} (h:isB bs):isB (recS e n bs i):=by
 unfold recS jhbD
 intro b hb
 rcases List.mem_append.1 hb with hb | hb
 ·have:∀ (w:Nat) (v:Int),isB (formL v w):=fun w=>by
   induction w with
   | zero=>intro v b hb; simp [formL] at hb
   | succ w ih =>
    intro v b hb
    simp only [formL] at hb
    rcases List.mem_cons.1 hb with q | q
    ·omega
    ·exact ih _ b q
  simp only [List.mem_append] at hb
  rcases hb with (((hb | hb) | hb) | hb) | hb <;> exact this _ _ b hb
 ·exact h b (List.mem_of_mem_drop (List.mem_of_mem_take hb))
theorem rcat_take {Z:DK} {p e n:Int} {bs:List Int} {N:Nat} (h:∀ j:Nat,j < N->readD Z (p + j)=(padB (recS e n bs j),0)):∀ m,m<=N->∀ L,L<=bs.length->L<=108 * m->(catR Z p m).take L=bs.take L
 | 0,_,L,_,hl=>by rw [show L=0 from by omega]; rfl
 | m + 1,hn,L,hb,hl=>by
  have lc:=catR_len (X:=Z) (p:=p) m fun i hi=>by rw [h i (by omega)]
  rw [catR_succ,h m (by omega)]
  by_cases q:L<=108 * m
  ·rw [List.take_append_of_le_length (by omega)]
   exact rcat_take h m (by omega) L hb q
  ·have ih:=rcat_take h m (by omega) (108 * m) (by omega) (Nat.le_refl _)
   rw [List.take_of_length_le (by omega)] at ih
   rw [List.take_append,lc,List.take_of_length_le (by omega),ih]
   dsimp only
   rw [jdrop_sec,List.take_append_of_le_length (by rw [List.length_take,List.length_drop]; omega),List.take_take,Nat.min_eq_left (by omega),Nat.mul_comm m 108,← List.take_add]
   rw [show 108 * m + (L - 108 * m)=L from by omega]
theorem rec_whole {Z:DK} {p e n:Int} {bs:List Int} (he:0<=e/\e < 18446744073709551616) (hn:0<=n/\n < 4294967296) (bl:bs.length<=60000) (h:∀ j:Nat,(j:Int) < jprtD bs.length->readD Z (p + j)=(padB (recS e n bs j),0)):RecW Z e n p/\outR Z p=bs:=by
 have jb:=jp_bd (n:=(bs.length:Int)) (by omega)
 have jq:jprtD bs.length < 65536:=by unfold jprtD; split <;> omega
 have hh:∀ j:Nat,(j:Int) < jprtD bs.length->jhdD (padB (recS e n bs j))=recH e n bs j:=fun j hj=>jhd_sec he hn (by omega) bl
 have h0:=h 0 (by omega)
 rw [show p + ((0:Nat):Int)=p from by omega] at h0
 have hf:rh Z p=recH e n bs 0:=by unfold rh; rw [h0]; exact hh 0 (by omega)
 have fp:(rh Z p).f_parts=jprtD bs.length:=by rw [hf]; rfl
 have fs:(rh Z p).f_size=bs.length:=by rw [hf]; rfl
 have ok:∀ j:Nat,(j:Int) < jprtD bs.length->ROk Z e n p j:=fun j hj=>by
  unfold ROk wantD
  rw [h j hj,fp,fs]
  exact ⟨rfl,hh j hj⟩
 refine ⟨⟨ok 0 (by omega),by rw [fp,fs],fun i hi=>ok i (by omega)⟩,?_⟩
 unfold outR
 rw [fp,fs,Int.toNat_natCast,rcat_take (N:=(jprtD bs.length).toNat) (fun j hj=>h j (by omega)) _ (Nat.le_refl _) _ (Nat.le_refl _) (by omega)]
 exact List.take_length
end Go.Q.Yk
end
section
set_option maxRecDepth 100000
/- Journal: records behind an image, plainly. -/
namespace Go.Q.Yk
end Go.Q.Yk
end
section
set_option maxRecDepth 100000
/- Journal: a saving that nothing cuts; rows of bytes; the example. -/
namespace Go.Q.Yk
structure WSJ (X:DK) (bs:List Int) (t:Int) (N:Nat) (r:Int × Int) (Y:DK):Prop where
 r:r=(grD X 0 512 + 1,0)
 good:GoodX Y
 safe:Y.safe=[]
 fuse:Y.fuse=0
 dead:Y.dead=false
 gr:grD Y 0 512=grD X 0 512 + 1
 bp:BP Y 0 256 t
 new:∀ j:Nat,j < N->readD Y (t * 256 + j)=(padB (newS (headD (grD X 0 512) bs) bs j),0)
 hi:∀ a,512<=a->vD Y a=vD X a
 out:outW Y (0 + t * 256)=bs
 num:numW Y 0 256 t=grD X 0 512 + 1
 old:∀ u:Int,(u=0∨u=1)->u≠t->∀ i:Nat,i < 256->readD Y (u * 256 + i)=readD X (u * 256 + i)
theorem wsJ_ok {X:DK} {bs:List Int} {slot t:Int} {r:Int × Int} {Y:DK} {N:Nat} (g:GoodX X) (hs:X.safe=[]) (hd:X.dead=false) (hf:X.fuse=0) (hB:isB bs) (bl:bs.length<=26624) (gl:grD X 0 512 < 4611686018427387904)
  (b:BP X 0 256 slot) (ht:t=if slot=0 then 1 else 0) (hN:(prtD bs.length).toNat<=N) (N6:N<=256) (hr:(r,Y)=layD (0 + t * 256) (headD (grD X 0 512) bs) bs X N):WSJ X bs t N r Y:=by
 have p1:=prt_pos bs.length
 have p6:prtD bs.length<=256:=by unfold prtD; split <;> omega
 have gn:=gr_nn g 0 512
 have tt:t=0∨t=1:=by rw [ht]; split <;> omega
 obtain ⟨gr,egr⟩:∃ gr,gr=grD X 0 512:=⟨_,rfl⟩
 rw [← egr] at gl hr gn
 have er:r=(layD (0 + t * 256) (headD gr bs) bs X N).1:=congrArg (·.1) hr
 have eY:Y=(layD (0 + t * 256) (headD gr bs) bs X N).2:=congrArg (·.2) hr
 obtain ⟨q1,q2,q3,q4,L⟩:=layD_free (f:=headD gr bs) (bs:=bs) (N:=N) (p:=0 + t * 256) hd hf hs (by omega) (by omega)
 rw [← er] at q1
 rw [← eY] at q2 q3 q4 L
 have rdn:∀ j:Nat,j < N->readD Y (t * 256 + j)=(padB (newS (headD gr bs) bs j),0):=fun j hj=>by
  have:=L.all j hj
  rw [show 0 + t * 256 + (j:Int)=t * 256 + j from by omega] at this
  exact rd_new (by omega) this
 have tri:∀ a,readD Y a=readD X a∨∃ j:Nat,j < N/\a=t * 256 + j:=fun a=>by
  rcases L.now a with h | ⟨j,h1,h2⟩
  ·exact .inl (rd_cong h)
  ·exact .inr ⟨j,h1,by omega⟩
 have gY:GoodX Y:=good_of q4 fun a=>by
  rcases L.now a with h | ⟨j,h1,h2⟩
  ·rw [h]; exact g.1 a
  ·rw [h2,L.all j h1]; exact newV_B hB
 have hdn:∀ j:Nat,j < N->((j:Int) < prtD bs.length->(hdD (padB (newS (headD gr bs) bs j))).f_n=gr + 1)/\(hdD (padB (newS (headD gr bs) bs j))).f_n<=gr + 1:=fun j hj=>by
  unfold newS
  by_cases c:(j:Int) < (headD gr bs).f_parts
  ·rw [if_pos c]
   have:=hd_sec (f:=headD gr bs) (bs:=bs) (i:=j) ⟨by show 0<=gr + 1; omega,by show gr + 1 < _; omega⟩ (by omega) (by show 0<=prtD _/\prtD _ < 65536; omega) (by show (0:Int)<=(bs.length:Int)/\(bs.length:Int) < 4294967296; omega) (sum_bd bs)
   rw [this]
   exact ⟨fun _=>rfl,Int.le_refl _⟩
  ·rw [if_neg c,pad_zero,fn_zero]
   exact ⟨fun h=>absurd h c,by omega⟩
 have nX:∀ a:Int,0<=a->a < 512->(readD X a).2=0->(fst1 X a).f_n<=gr:=fun a a0 a1 e=>by
  have:=gr_ge X 0 512 a.toNat (by omega)
  rw [show (0:Int) + ((a.toNat:Nat):Int)=a from by omega,← egr] at this
  exact this e
 have oth:∀ u:Int,(u=0∨u=1)->u≠t->∀ i:Nat,i < 256->readD Y (u * 256 + i)=readD X (u * 256 + i):=fun u hu ne i hi=>by
  rcases tri (u * 256 + i) with h | ⟨j,h1,h2⟩
  ·exact h
  ·omega
 have rd:∀ j:Nat,(j:Int) < prtD bs.length->readD Y (0 + t * 256 + j)=(padB (laySec (headD gr bs) bs j),0):=fun j hj=>by
  rw [show 0 + t * 256 + (j:Int)=t * 256 + j from by omega,rdn j (by omega)]
  unfold newS
  rw [if_pos (show (j:Int) < (headD gr bs).f_parts from hj)]
 obtain ⟨a,b1,c,d⟩:=lay_whole (kk:=256) (by omega) p6 ⟨gn,gl⟩ rd
 have w:IsW Y 0 256 t:=⟨a,b1⟩
 have nw:numW Y 0 256 t=gr + 1:=c
 have cmp:∀ u:Int,(u=0∨u=1)->u≠t->IsW Y 0 256 u->numW Y 0 256 u<=gr:=fun u hu ne wu=>by
  have o0:=oth u hu ne 0 (by omega)
  rw [show u * 256 + ((0:Nat):Int)=0 + u * 256 from by omega] at o0
  have e:numW Y 0 256 u=(fst1 X (0 + u * 256)).f_n:=by unfold numW fst1; rw [o0]
  rw [e]
  exact nX (0 + u * 256) (by omega) (by omega) (by rw [← o0]; exact wu.1)
 refine ⟨by rw [q1,← egr]; rfl,gY,q4,q3,q2,?_,?_,by rw [← egr]; exact rdn,fun a ha=>?_,d,by rw [← egr]; exact nw,oth⟩
 ·rw [← egr]
  refine Int.le_antisymm (gr_le (by omega) 512 fun i hi e=>?_) ?_
  ·rcases tri (0 + i) with h | ⟨j,h1,h2⟩
   ·have:=nX (0 + i) (by omega) (by omega) (by rw [← h]; exact e)
    have e2:fst1 Y (0 + i)=fst1 X (0 + i):=by unfold fst1; rw [h]
    rw [e2]; omega
   ·have e3:=rdn j h1
    rw [← h2] at e3
    have:fst1 Y (0 + i)=hdD (padB (newS (headD gr bs) bs j)):=by unfold fst1; rw [e3]
    rw [this]; exact (hdn j h1).2
  ·have e3:=rdn 0 (by omega)
   have:=gr_ge Y 0 512 (t * 256).toNat (by omega)
   rw [show (0:Int) + (((t * 256).toNat:Nat):Int)=t * 256 + ((0:Nat):Int) from by omega,e3] at this
   have e4:fst1 Y (t * 256 + ((0:Nat):Int))=hdD (padB (newS (headD gr bs) bs 0)):=by unfold fst1; rw [e3]
   rw [e4,(hdn 0 (by omega)).1 (by omega)] at this
   exact this rfl
 ·rcases tt with e | e
  ·subst e
   exact .inr (.inl ⟨rfl,w,fun w1=>by have:=cmp 1 (.inr rfl) (by omega) w1; omega⟩)
  ·subst e
   exact .inr (.inr ⟨rfl,w,fun w0=>by have:=cmp 0 (.inl rfl) (by omega) w0; omega⟩)
 ·rcases L.now a with h | ⟨j,h1,h2⟩
  ·exact h
  ·omega
end Go.Q.Yk
end
section
set_option maxRecDepth 100000
/- Journal: the document's example, walked. -/
namespace Go.Q.Yk
variable {B c:Nat} {h h':Heap} {d rn rs pr sr:Nat} {X:DK}
theorem bp_loc {X Z:DK} {s:Int} (h:∀ p,0<=p->p < 512->readD Z p=readD X p) (b:BP X 0 256 s):BP Z 0 256 s/\(0<=s->outW Z (0 + s * 256)=outW X (0 + s * 256)/\numW Z 0 256 s=numW X 0 256 s)/\grD Z 0 512=grD X 0 512:=by
 have one:∀ u:Int,(u=0∨u=1)->(IsW Z 0 256 u ↔ IsW X 0 256 u)/\numW Z 0 256 u=numW X 0 256 u/\(IsW X 0 256 u->outW Z (0 + u * 256)=outW X (0 + u * 256)):=fun u hu=>by
  have o:∀ i:Nat,(i:Int) < 256->readD Z (0 + u * 256 + i)=readD X (0 + u * 256 + i):=fun i hi=>h _ (by omega) (by omega)
  have o0:=o 0 (by omega)
  rw [show 0 + u * 256 + ((0:Nat):Int)=0 + u * 256 from by omega] at o0
  have to:IsW X 0 256 u->IsW Z 0 256 u/\outW Z (0 + u * 256)=outW X (0 + u * 256):=fun w=>by
   have:=w.2.1.2.1
   obtain ⟨a,b,c,d⟩:=wh_cong (Z:=Z) w.2 fun i hi=>o i (by omega)
   exact ⟨⟨by rw [d]; exact w.1,a⟩,b⟩
  refine ⟨⟨fun w=>?_,fun w=>(to w).1⟩,by unfold numW fst1; rw [o0],fun w=>(to w).2⟩
  have:=w.2.1.2.1
  obtain ⟨a,b,c,d⟩:=wh_cong (Z:=X) w.2 fun i hi=>(o i (by omega)).symm
  exact ⟨by rw [d]; exact w.1,a⟩
 obtain ⟨a0,n0,u0⟩:=one 0 (.inl rfl)
 obtain ⟨a1,n1,u1⟩:=one 1 (.inr rfl)
 have gg:∀ n:Nat,n<=512->grD Z 0 n=grD X 0 n:=fun n=>by
  induction n with
  | zero=>intro _; rfl
  | succ n ih =>
   intro hn
   have hh:=h (0 + n) (by omega) (by omega)
   rw [grD,grD,hh,ih (by omega)]
   have:fst1 Z (0 + n)=fst1 X (0 + n):=by unfold fst1; rw [hh]
   rw [this]
 refine ⟨?_,?_,gg 512 (Nat.le_refl _)⟩
 ·rcases b with ⟨e,q0,q1⟩ | ⟨e,w,q⟩ | ⟨e,w,q⟩
  ·exact .inl ⟨e,fun x=>q0 (a0.1 x),fun x=>q1 (a1.1 x)⟩
  ·exact .inr (.inl ⟨e,a0.2 w,fun x=>by rw [n0,n1]; exact q (a1.1 x)⟩)
  ·exact .inr (.inr ⟨e,a1.2 w,fun x=>by rw [n0,n1]; exact q (a0.1 x)⟩)
 ·intro s0
  rcases b with ⟨e,q0,q1⟩ | ⟨e,w,q⟩ | ⟨e,w,q⟩
  ·omega
  ·rw [e]; exact ⟨u0 w,n0⟩
  ·rw [e]; exact ⟨u1 w,n1⟩
theorem Row.jf {E:Nat} {s:Slc} {xs:List Value} {fresh:Bool} {e n p:Int} (R:Row B h E 1 s xs) (hE:E≠100/\E≠137) (D:DAt B c h d rn rs X) (S:StAt h sr d pr fresh e n p) (F:JF d rn rs sr h h'):Row B h' E 1 s xs:=by
 have nm:∀ {r:Nat} {dd:TypeDesc} {l:List (Value × Value)},MapH dd h r l->s.blk≠some r:=fun {r dd l} M q=>by
  rcases R.2.2 with ⟨a,_⟩ | ⟨g,cur,a1,a2,a3,_⟩
  ·unfold Slc.blk at q; rw [a] at q; cases q
  ·unfold Slc.blk at q
   rw [a1] at q
   have:=Option.some.inj q
   dsimp only at this
   subst this
   exact blk_map a3 M rfl
 refine R.keep fun g hg=>F.block g (R.bd hg).2 (fun q=>?_) (fun q=>?_) (fun q=>?_) (fun q=>?_)
 ·subst q; exact Row.unlike R D.P hE.1 hg
 ·subst q; exact nm D.N hg
 ·subst q; exact nm D.S hg
 ·subst q; exact Row.unlike R S hE.2 hg
theorem PairAt.jf {fr kk:Int} {fresh:Bool} {e n p:Int} (P:PairAt h pr d fr kk) (D:DAt B c h d rn rs X) (S:StAt h sr d pr fresh e n p) (F:JF d rn rs sr h h'):PairAt h' pr d fr kk :=
 Blk.old P (F.block pr P.lt (fun q=>by subst q; exact Blk.unlike P D.P (by decide) rfl) (blk_map P D.N) (blk_map P D.S) (fun q=>by subst q; exact Blk.unlike P S (by decide) rfl))
abbrev J0:DK:=⟨[],[],0,false,0⟩
theorem gJ0:GoodX J0:=⟨fun a=>zero_B,fun a=>zero_B⟩
theorem rdJ0 {a:Int} (ha:0<=a/\a < 1024):readD J0 a=(nrm 128 [],0):=rdZ ha rfl
theorem bpJ0:BP J0 0 256 (-1):=by
 have nw:∀ u:Int,(u=0∨u=1)->¬ IsW J0 0 256 u:=fun u hu=>not_whole (.inr (by rw [rdJ0 (by omega)]))
 exact .inl ⟨rfl,nw 0 (.inl rfl),nw 1 (.inr rfl)⟩
theorem grJ0:grD J0 0 512=0:=Int.le_antisymm (gr_le (Int.le_refl _) 512 fun i hi e=>by
  have:fst1 J0 (0 + i)=hdD (nrm 128 []):=by unfold fst1; rw [rdJ0 (by omega)]
  rw [this,fn_zero]; omega) (gr_nn gJ0 0 512)
theorem rhJ0 {a:Int} (ha:0<=a/\a < 1024):(rh J0 a).f_epoch=0:=by
 unfold rh; rw [rdJ0 ha]; decide
theorem good_boot {G:DK} {fs:List Int} (hs:G.safe=[]) (g:GoodX G):GoodX (bootD G fs):=good_of rfl fun a=>by rw [boot_nil hs]; exact g.1 a
end Go.Q.Yk
end

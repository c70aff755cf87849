/- A part of the proof of statements of this seat: lemmas, no statement of their own. -/
import Derived.Test.YtmmpamfadeonmaaGreatDoorYkZan
import Derived.Test.YtmmpamfadeonmaaGreatDoorYkZao
set_option linter.unusedVariables false
set_option linter.unusedSimpArgs false
section
set_option maxRecDepth 100000
/- Strong: what was laid is read: the reader. -/
namespace Go.Q.Yk
open Go.Q.Sg
/-- a reader that is good, and what is left -/
def Rd (B:Nat) (h:Heap) (r:Nat) (l:List Int):Prop :=
 ∃ s,Blk h r [Slc.v s,.bool false] 92/\(B<=r/\∀ h',Ext B h h'->SlcAt h' s (b8 l))/\s.len=l.length/\s.len<=s.cap/\isB l/\l.length<=1000000
theorem Rd.lt {B:Nat} {h:Heap} {r:Nat} {l:List Int} (R:Rd B h r l):r < h.size:=by obtain ⟨s,K,_⟩:=R; exact K.lt
theorem Rd.B {B:Nat} {h:Heap} {r:Nat} {l:List Int} (R:Rd B h r l):B<=r:=by obtain ⟨s,_,⟨b,_⟩,_⟩:=R; exact b
theorem Rd.isB {B:Nat} {h:Heap} {r:Nat} {l:List Int} (R:Rd B h r l):Go.Q.isB l:=by obtain ⟨s,_,_,_,_,b,_⟩:=R; exact b
theorem Rd.len {B:Nat} {h:Heap} {r:Nat} {l:List Int} (R:Rd B h r l):l.length<=1000000:=by obtain ⟨s,_,_,_,_,_,b⟩:=R; exact b
theorem Rd.keep {B:Nat} {h h':Heap} {r:Nat} {l:List Int} (R:Rd B h r l) (X:Ext B h h') (e:h'[r]? = h[r]?):Rd B h' r l:=by
 obtain ⟨s,K,⟨Br,S⟩,q⟩:=R
 exact ⟨s,K.old e,⟨Br,fun h2 Y=>S h2 (X.trans Y)⟩,q⟩
theorem Rd.ext {B:Nat} {h h':Heap} {r:Nat} {l:List Int} (R:Rd B h r l) (X:Ext h.size h h'):Rd B h' r l:=R.keep (X.mono (by have:=R.lt; have:=R.B; omega)) (X.block r R.lt)
theorem getS_parts {l l':List Int} {v:Int} (hB:isB l) (e:getS l=some (v,l')):0<=v/\v < 18446744073709551616:=(shortC.sd l v l' hB e).2
section
variable {B:Nat} {h:Heap} {r:Nat} {l l':List Int}
theorem rbytes_ok {n:Int} {k:Slc->Heap->Prop} (R:Rd B h r l) (n0:0<=n) (n1:n<=l.length)
  (H:∀ s' h',Rd B h' r (l.drop n.toNat)->Upd r h h'->Row h.size h' 5 1 s' (b8 (l.take n.toNat))->k s' h'):strong_reader_bytes (some ⟨r,0,none⟩) n k h:=by
 have Rl:=R.lt
 obtain ⟨s,K,⟨Br,S⟩,sl,sc,hB,hz⟩:=R
 have Bh:B<=h.size:=by omega
 unfold strong_reader_bytes
 refine ⟨_,rfl,false,K.cl rfl,?_⟩
 rw [if_neg (by simp)]
 refine ⟨s,K.cl0 rfl,?_⟩
 rw [wrapU64 (x:=(s.len:Int)) (by omega) (by omega),show decide (n > (s.len:Int))=false from by rw [decide_eq_false_iff_not]; omega]
 unfold strong_reader_bytes_g1
 rw [if_neg (by simp)]
 refine ⟨_,rfl,s,K.cl0 rfl,_,by omega,n0,by omega,by omega,rfl,?_⟩
 have T:=(S h (Ext.refl _ _)).sub (w:=1) (l:=(0:Int).toNat) (u:=n.toNat) (m:=(s.cap:Int).toNat) (by omega) (by omega)
 rw [show (0:Int).toNat * 1=0 from rfl,List.drop_zero,show (n.toNat - (0:Int).toNat) * 1=n.toNat from by simp,← List.map_take] at T
 refine Clone_ok (l:=l.take n.toNat) (by rw [sub1,List.length_take]; show n.toNat - 0=_; omega) T (by rw [List.length_take]; omega) fun s1 h1 R1 X1=>?_
 have z1:=X1.size
 have K1:=K.ext X1 Rl
 refine ⟨s,K1.cl0 rfl,_,n0,by omega,by omega,by omega,rfl,bset0 K1 (by show 0 < 2; omega) fun h2 K2 U=>?_⟩
 have UU:=(Upd.of_ext (b:=r) X1).trans U
 refine H s1 h2 ⟨_,K2,⟨Br,fun h3 Y=>?_⟩,by rw [sub1,List.length_drop]; omega,by simp only [subS]; omega,isB_drop hB _,by rw [List.length_drop]; omega⟩ UU (R1.keep fun g hg=>U.block g (R1.bd hg).2 (by have:=(R1.bd hg).1; omega))
 have:=(S h3 ((UU.ext Br Bh).trans Y)).sub (w:=1) (l:=n.toNat) (u:=(s.len:Int).toNat) (m:=(s.cap:Int).toNat) (by omega) (by omega)
 rw [Nat.mul_one,Nat.mul_one,← List.map_drop,← List.map_take,List.take_of_length_le (by rw [List.length_drop]; omega)] at this
 exact this
theorem rtake_ok {u:Nat} {k:Unit->Heap->Prop} (R:Rd B h r l) (hu:u<=l.length) (H:∀ h',Rd B h' r (l.drop u)->Upd r h h'->k () h'):strong_reader_take (some ⟨r,0,none⟩) u 0 k h:=by
 have Rl:=R.lt
 obtain ⟨s,K,⟨Br,S⟩,sl,sc,hB,hz⟩:=R
 have Bh:B<=h.size:=by omega
 unfold strong_reader_take
 refine ⟨_,rfl,false,K.cl rfl,bset1 K (by show 1 < 2; omega) fun h1 K1 U1=>⟨s,K1.cl0 rfl,_,by omega,by omega,by omega,by omega,rfl,bset0 K1 (by show 0 < 2; omega) fun h2 K2 U2=>?_⟩⟩
 have UU:=U1.trans U2
 refine H h2 ⟨_,K2,⟨Br,fun h3 Y=>?_⟩,by rw [sub1,List.length_drop]; omega,by simp only [subS]; omega,isB_drop hB _,by rw [List.length_drop]; omega⟩ UU
 have:=(S h3 ((UU.ext Br Bh).trans Y)).sub (w:=1) (l:=(u:Int).toNat) (u:=(s.len:Int).toNat) (m:=(s.cap:Int).toNat) (by omega) (by omega)
 rw [Nat.mul_one,Nat.mul_one,Int.toNat_natCast,← List.map_drop,← List.map_take,List.take_of_length_le (by rw [List.length_drop]; omega)] at this
 exact this
theorem rshort_ok {v:Int} {k:Int->Heap->Prop} (R:Rd B h r l) (e:getS l=some (v,l')) (H:∀ h',Rd B h' r l'->Upd r h h'->k v h'):strong_reader_short (some ⟨r,0,none⟩) k h:=by
 have R':=R
 obtain ⟨s,K,⟨Br,S⟩,sl,sc,hB,hz⟩:=R
 unfold strong_reader_short
 refine ⟨_,rfl,s,K.cl0 rfl,GetShort_ok (S h (Ext.refl _ _)) sl hB (by omega) (fun v2 l2 u g e1 ul v0 v1=>?_) fun g=>by rw [g] at e; cases e⟩
 rw [g] at e
 cases e
 exact rtake_ok R' ul fun h' R2 U=>H h' (by rw [e1]; exact R2) U
theorem bwAnd20 {n:Int} (h0:0<=n) (h1:n < 1048576):bwAnd .u64 n 1048575=n:=by
 obtain ⟨m,rfl⟩:∃ m:Nat,n=m:=⟨n.toNat,by omega⟩
 show IntKind.u64.wrap ((BitVec.ofInt 64 (m:Int) &&& BitVec.ofInt 64 ((1048575:Nat):Int)).toNat:Int)=_
 rw [and_nat 64 m 1048575 (by omega) (by omega),wU64]
 have:m &&& 1048575=m:=by
  rw [show (1048575:Nat)=2 ^ 20 - 1 from rfl,Nat.and_two_pow_sub_one_eq_mod,Nat.mod_eq_of_lt (by omega)]
 rw [this]
 omega
theorem rcount_ok {v:Int} {k:Int->Heap->Prop} (R:Rd B h r l) (e:cntC.get l=some (v,l')) (v1:v < 1048576) (H:∀ h',Rd B h' r l'->Upd r h h'->k v h'):strong_reader_count (some ⟨r,0,none⟩) k h:=by
 obtain ⟨q,g,e2⟩:=Option.bind_eq_some_iff.1 e
 split at e2
 ·cases e2
 ·cases e2
  have v0:=(getS_parts R.isB g).1
  unfold strong_reader_count
  refine rshort_ok R g fun h1 R1 U1=>?_
  have R1':=R1
  obtain ⟨s,K,⟨Br,S⟩,sl,sc,hB,hz⟩:=R1
  refine ⟨_,rfl,false,K.cl rfl,?_⟩
  rw [show decide (v > 1048576)=false from by rw [decide_eq_false_iff_not]; omega]
  refine bset1 K (by show 1 < 2; omega) fun h2 K2 U2=>⟨_,rfl,?_⟩
  rw [bwAnd20 v0 v1,wrapI64 (x:=v) (by omega) (by omega)]
  have K2:Blk h2 r [Slc.v s,.bool false] 92:=K2
  have Bh:B<=h1.size:=by have:=K.lt; omega
  exact H h2 ⟨s,K2,⟨Br,fun h3 Y=>S h3 ((U2.ext Br Bh).trans Y)⟩,sl,sc,hB,hz⟩ (U1.trans U2)
/-- an array of a block's is read -/
theorem rarray_ok {b off n E:Nat} {z:List Value} {k:Unit->Heap->Prop} (R:Rd B h r l) (P:Blk h b z E) (hb:b≠r) (Bb:B<=b) (hz:off + n<=z.length) (hn:n<=l.length) (n1:n<=1000)
  (H:∀ h',Rd B h' r (l.drop n)->(∀ g,g < h.size->g≠b->g≠r->h'[g]? = h[g]?)->h.size<=h'.size->Blk h' b (z.take off ++ b8 (l.take n) ++ z.drop (off + n)) E->k () h'):strong_reader_array (some ⟨r,0,none⟩) ⟨some ((⟨b,0,none⟩:Addr).add off),n,n⟩ k h:=by
 unfold strong_reader_array
 rw [wrapU64 (x:=(n:Int)) (by omega) (by omega)]
 refine rbytes_ok R (by omega) (by omega) fun s h1 R1 U1 Rw=>?_
 rw [Int.toNat_natCast] at R1 Rw
 have tl:(l.take n).length=n:=by rw [List.length_take]; omega
 refine cpyB (U1.blk P hb) Rw.slc (Row.pb Rw) (by omega) hz fun h2 P2 U2=>?_
 rw [tl] at P2
 refine H h2 (R1.keep (U2.ext Bb (by have:=R1.lt; have:=R1.B; omega)) (U2.block r R1.lt (Ne.symm hb))) (fun g hg h1' h2'=>?_) (Nat.le_trans U1.size U2.size) P2
 rw [U2.block g (by have:=U1.size; omega) h1',U1.block g hg h2']
theorem tx_parts {x:List Int} (e:txC.get l=some (x,l')):∃ (n:Int) (l1:List Int),getS l=some (n,l1)/\n<=l1.length/\x=l1.take n.toNat/\l'=l1.drop n.toNat:=by
 obtain ⟨q,g,e2⟩:=Option.bind_eq_some_iff.1 e
 split at e2
 ·rename_i hq
  cases e2
  exact ⟨q.1,q.2,g,hq,rfl,rfl⟩
 ·cases e2
theorem rtext_ok {x:List Int} {k:Slc->Heap->Prop} (R:Rd B h r l) (e:txC.get l=some (x,l')) (H:∀ s' h',Rd B h' r l'->Upd r h h'->Row h.size h' 5 1 s' (b8 x)->k s' h'):strong_reader_text (some ⟨r,0,none⟩) k h:=by
 obtain ⟨n,l1,g,hn,rfl,rfl⟩:=tx_parts e
 unfold strong_reader_text
 refine rshort_ok R g fun h1 R1 U1=>rbytes_ok R1 (getS_parts R.isB g).1 hn fun s h2 R2 U2 Rw=>H s h2 R2 (U1.trans U2) (Rw.mono U1.size)
end
end Go.Q.Yk
end
section
set_option maxRecDepth 100000
/- Strong: what was laid is read: entries, chains, boxes. -/
namespace Go.Q.Yk
open Go.Q.Sg
theorem getN_len {α:Type} {A:PC α} (hA:Eat A):∀ (n:Nat) (l:List Int) (xs:List α) (l':List Int),getN A n l=some (xs,l')->xs.length + l'.length<=l.length/\xs.length=n
 | 0,l,xs,l',e=>by cases e; simp
 | n + 1,l,xs,l',e=>by
  rw [getN] at e
  obtain ⟨q,e1,e2⟩:=Option.bind_eq_some_iff.1 e
  obtain ⟨r,e3,e4⟩:=Option.map_eq_some_iff.1 e2
  obtain ⟨x,l1⟩:=q
  obtain ⟨ys,l2⟩:=r
  cases e4
  have a:=hA _ _ _ e1
  have b:=getN_len hA n l1 ys l2 e3
  simp only [List.length_cons]; omega
theorem getN_cons {α:Type} {A:PC α} {n:Nat} {l l':List Int} {xs:List α} (e:getN A (n + 1) l=some (xs,l')):∃ x l1 ys,A.get l=some (x,l1)/\getN A n l1=some (ys,l')/\xs=x :: ys:=by
 rw [getN] at e
 obtain ⟨q,e1,e2⟩:=Option.bind_eq_some_iff.1 e
 obtain ⟨r,e3,e4⟩:=Option.map_eq_some_iff.1 e2
 obtain ⟨x,l1⟩:=q
 obtain ⟨ys,l2⟩:=r
 cases e4
 exact ⟨x,l1,ys,e1,e3,rfl⟩
theorem many_parts {α:Type} {A:PC α} {l l':List Int} {xs:List α} (e:(manyC A).get l=some (xs,l')):∃ (n:Int) (l1:List Int),getS l=some (n,l1)/\getN A n.toNat l1=some (xs,l'):=by
 obtain ⟨q,g,e2⟩:=Option.bind_eq_some_iff.1 e
 exact ⟨q.1,q.2,g,e2⟩
theorem bind_parts {α β:Type} {A:PC α} {C:α->PC β} {l l':List Int} {x:α × β} (e:(A.bind C).get l=some (x,l')):∃ l1,A.get l=some (x.1,l1)/\(C x.1).get l1=some (x.2,l'):=by
 obtain ⟨q,e1,e2⟩:=Option.bind_eq_some_iff.1 e
 obtain ⟨r,e3,e4⟩:=Option.map_eq_some_iff.1 e2
 obtain ⟨x1,l1⟩:=q
 obtain ⟨x2,l2⟩:=r
 cases e4
 exact ⟨l1,e1,e3⟩
/-- an entry, and its command's row -/
structure EntR (C:Nat) (h:Heap) (v:S_api_Entry) (e:Ent):Prop where
 t:v.f_Term=e.1
 r:Row C h 5 1 v.f_Cmd (b8 e.2)
structure BoxR (C:Nat) (h:Heap) (v:S_api_Box) (b:BoxV):Prop where
 t:sB v.f_Tenant=b.1
 e:v.f_Epoch=b.2.1
 n:v.f_Nonce=b.2.2.1
 r:Row C h 5 1 v.f_Body (b8 b.2.2.2)
theorem EntR.keep {C:Nat} {h h':Heap} {v:S_api_Entry} {e:Ent} (E:EntR C h v e) (k:∀ g,v.f_Cmd.blk=some g->C<=g->g < h.size->h'[g]? = h[g]?):EntR C h' v e:=⟨E.t,E.r.keep fun g hg=>k g hg (E.r.bd hg).1 (E.r.bd hg).2⟩
theorem BoxR.keep {C:Nat} {h h':Heap} {v:S_api_Box} {e:BoxV} (E:BoxR C h v e) (k:∀ g,v.f_Body.blk=some g->C<=g->g < h.size->h'[g]? = h[g]?):BoxR C h' v e:=⟨E.t,E.e,E.n,E.r.keep fun g hg=>k g hg (E.r.bd hg).1 (E.r.bd hg).2⟩
section
variable {B:Nat} {h:Heap} {r:Nat} {l l':List Int}
theorem rents_ok {es:List Ent} {k:Slc->Heap->Prop} (R:Rd B h r l) (e:(manyC entC).get l=some (es,l'))
  (H:∀ s vs h',Rd B h' r l'->Upd r h h'->Row h.size h' 117 2 s (vs.flatMap S_api_Entry.cs)->Many (EntR h.size h') vs es->k s h'):strong_reader_entries (some ⟨r,0,none⟩) k h:=by
 obtain ⟨n,l1,g,gn⟩:=many_parts e
 have nb:=getS_parts R.isB g
 have Rl:=R.lt
 have el:=(getN_len eat_ent _ _ _ _ gn)
 have ll:=R.len
 have l1l:=shortC.le _ _ _ g
 unfold strong_reader_entries
 refine rshort_ok R g fun h1 R1 U1=>?_
 refine ⟨fun q h'=>∃ done rest vs lc,es=done ++ rest/\q.2=(rest.length:Int)/\getN entC rest.length lc=some (rest,l')/\Rd B h' r lc/\Upd r h h'/\Row h.size h' 117 2 q.1 (vs.flatMap S_api_Entry.cs)/\Many (EntR h.size h') vs done,fun q _=>q.2.toNat,⟨[],es,[],l1,rfl,by dsimp only; omega,by rw [el.2]; exact gn,R1,U1,Row.nil _ _ _ _,Many.nil⟩,?_⟩
 rintro s i h2 ⟨done,rest,vs,lc,he,hi,gr,R2,U2,Rw,M⟩
 dsimp only at hi Rw
 have R2l:=R2.lt
 have dl:done.length + rest.length=es.length:=by rw [he,List.length_append]
 unfold strong_reader_entries_l1b
 cases rest with
 | nil =>
  rw [if_neg (by rw [decide_eq_true_eq,hi]; simp)]
  unfold strong_reader_entries_g2
  rw [if_neg (by simp)]
  cases gr
  rw [List.append_nil] at he
  rw [← he] at M
  exact H s vs h2 R2 U2 Rw M
 | cons x rest =>
  obtain ⟨x',l3,ys,ex,ey,exy⟩:=getN_cons gr
  cases exy
  obtain ⟨l4,et,ec⟩:=bind_parts ex
  rw [List.length_cons] at hi dl
  rw [if_pos (by rw [decide_eq_true_eq,hi]; omega)]
  have R2':=R2
  obtain ⟨sr,K,_⟩:=R2'
  refine ⟨_,rfl,false,K.cl rfl,?_⟩
  unfold strong_reader_entries_g2
  rw [if_pos (by simp)]
  refine rshort_ok R2 et fun h3 R3 U3=>?_
  have R3l:=R3.lt
  refine bx (cs:=S_api_Entry.cs ⟨x.1,⟨none,0,0⟩⟩) rfl (by show 2<=2; omega) fun h4 P4 X4=>?_
  have z4:=X4.size
  have p4:=P4.lt
  refine rtext_ok (R3.ext X4) ec fun s5 h5 R5 U5 Rw5=>?_
  have P5:=U5.blk P4 (by omega)
  have z5:=U5.size
  refine bset1 P5 (by show 1 < 2; omega) fun h6 P6 U6=>⟨⟨x.1,s5⟩,CellsAt.of_blk P6,bx0 fun h7 P7 X7=>?_⟩
  have z6:=U6.size
  have z7:=X7.size
  -- what was there stays up to here
  have same:∀ g,g < h2.size->g≠r->h7[g]? = h2[g]?:=fun g hg hr=>by
   have:=U3.size
   rw [X7.block g (by omega),U6.block g (by omega) (by omega),U5.block g (by omega) hr,X4.block g (by omega),U3.block g hg hr]
  have z23:=U3.size
  have z02:=U2.size
  have R7:Rd B h7 r l3:=(R5.keep (U6.ext (by have:=R.B; omega) (by have:=R.B; omega)) (U6.block r R5.lt (by omega))).ext X7
  have Rw7:Row h.size h7 117 2 s (vs.flatMap S_api_Entry.cs):=Rw.keep fun g hg=>same g (Rw.bd hg).2 (by have:=(Rw.bd hg).1; omega)
  have M7:Many (EntR h.size h7) vs done:=M.imp fun v e E=>E.keep fun g _ h1 h2'=>same g h2' (by omega)
  have Rw57:Row h4.size h7 5 1 s5 (b8 x.2):=Rw5.keep fun g hg=>by
   have:=Rw5.bd hg
   rw [X7.block g (by omega),U6.block g (by omega) (by omega)]
  have M8:Many (EntR h.size h7) (vs ++ [⟨x.1,s5⟩]) (done ++ [x]):=M7.snoc ⟨rfl,Rw57.mono (by omega)⟩
  have sl:s.len=done.length:=by
   have:=Rw.1
   rw [Go.Q.Rw.fm_len (w:=2) (fun x=>rfl)] at this
   have:=M.l
   omega
  have U27:Upd r h h7:=U2.trans ⟨by omega,fun g hg hr=>same g hg hr⟩
  refine App.row Rw7 (by omega) rfl rfl (oneC (by kernel_rfl)) (by omega) (by simp only [maxLen]; omega) fun s8 h8 R8 l8 z8 F8 _=>⟨_,rfl,?_⟩
  have sb:∀ g,s.blk=some g->h.size<=g:=fun g hg=>(Rw7.bd hg).1
  have old8:∀ g,g < h7.size->g < h.size->h8[g]? = h7[g]?:=fun g hg hg2=>F8 g hg fun q=>by have:=sb g q; omega
  rw [wrapU64 (x:=i - 1) (by omega) (by omega)]
  refine ⟨⟨done ++ [x],rest,vs ++ [⟨x.1,s5⟩],l3,by rw [he,List.append_assoc]; rfl,by dsimp only; omega,ey,R7.keep ⟨z8,fun g hg=>old8 g (by have:=R7.B; have:=R7.lt; omega) (by have:=R7.B; omega)⟩ (old8 r R7.lt Rl),⟨by have:=U27.size; omega,fun g hg hr=>(old8 g (by have:=U27.size; omega) hg).trans (U27.block g hg hr)⟩,by rw [List.flatMap_append]; simpa using R8,?_⟩,by dsimp only; omega⟩
  ·exact M8.imp fun v e E=>⟨E.t,E.r.keep fun g hg=>F8 g (E.r.bd hg).2 fun q=>Row.ne_row E.r Rw7 (by decide) hg q⟩
theorem rsev_ok {bs:List BoxV} {k:Slc->Heap->Prop} (R:Rd B h r l) (e:(manyC boxC).get l=some (bs,l'))
  (H:∀ s vs h',Rd B h' r l'->Upd r h h'->Row h.size h' 76 15 s (vs.flatMap S_api_Box.cs)->Many (BoxR h.size h') vs bs->k s h'):strong_reader_several (some ⟨r,0,none⟩) k h:=by
 obtain ⟨n,l1,g,gn⟩:=many_parts e
 have nb:=getS_parts R.isB g
 have Rl:=R.lt
 have el:=(getN_len eat_box _ _ _ _ gn)
 have ll:=R.len
 have l1l:=shortC.le _ _ _ g
 unfold strong_reader_several
 refine rshort_ok R g fun h1 R1 U1=>?_
 refine ⟨fun q h'=>∃ done rest vs lc,bs=done ++ rest/\q.2=(rest.length:Int)/\getN boxC rest.length lc=some (rest,l')/\Rd B h' r lc/\Upd r h h'/\Row h.size h' 76 15 q.1 (vs.flatMap S_api_Box.cs)/\Many (BoxR h.size h') vs done,fun q _=>q.2.toNat,⟨[],bs,[],l1,rfl,by dsimp only; omega,by rw [el.2]; exact gn,R1,U1,Row.nil _ _ _ _,Many.nil⟩,?_⟩
 rintro s i h2 ⟨done,rest,vs,lc,he,hi,gr,R2,U2,Rw,M⟩
 dsimp only at hi Rw
 have R2l:=R2.lt
 have dl:done.length + rest.length=bs.length:=by rw [he,List.length_append]
 unfold strong_reader_several_l1b
 cases rest with
 | nil =>
  rw [if_neg (by rw [decide_eq_true_eq,hi]; simp)]
  unfold strong_reader_several_g2
  rw [if_neg (by simp)]
  cases gr
  rw [List.append_nil] at he
  rw [← he] at M
  exact H s vs h2 R2 U2 Rw M
 | cons x rest =>
  obtain ⟨x',l3,ys,ex,ey,exy⟩:=getN_cons gr
  cases exy
  rw [List.length_cons] at hi dl
  rw [if_pos (by rw [decide_eq_true_eq,hi]; omega)]
  have R2':=R2
  obtain ⟨sr,K,⟨Br,S⟩,sl',sc',hB,hz⟩:=R2'
  refine ⟨_,rfl,false,K.cl rfl,?_⟩
  unfold strong_reader_several_g2
  rw [if_pos (by simp)]
  refine ⟨_,rfl,sr,K.cl0 rfl,BGet_ok (fun h' Y=>S h' (Y.mono (by omega))) sl' sc' hB hz (fun v b lq h3 eb wf BA Rb X3=>?_) fun e' h' en _ _=>by rw [en] at ex; cases ex⟩
  rw [eb] at ex
  cases ex
  have z3:=X3.size
  refine bx (cs:=S_api_Box.cs v) rfl (by show 15<=15; omega) fun h4 P4 X4=>?_
  have z4:=X4.size
  have p4:=P4.lt
  have ed:l3=lc.drop (lc.length - l3.length):=by
   have:=(boxC.sd _ _ _ hB eb).1
   have hl:=congrArg List.length this
   rw [List.length_append] at hl
   conv=>rhs; rw [this]
   rw [List.length_append,show (boxC.put x).length + l3.length - l3.length=(boxC.put x).length from by omega,List.drop_left]
  refine rtake_ok ((R2.ext X3).ext X4) (by omega) fun h6 R6 U6=>?_
  rw [← ed] at R6
  have z6:=U6.size
  have P6:=U6.blk P4 (by omega)
  refine ⟨v,CellsAt.of_blk P6,bx0 fun h7 P7 X7=>?_⟩
  have z7:=X7.size
  have same:∀ g,g < h2.size->g≠r->h7[g]? = h2[g]?:=fun g hg hr=>by
   rw [X7.block g (by omega),U6.block g (by omega) hr,X4.block g (by omega),X3.block g hg]
  have z02:=U2.size
  have R7:Rd B h7 r l3:=R6.ext X7
  have Rw7:Row h.size h7 76 15 s (vs.flatMap S_api_Box.cs):=Rw.keep fun g hg=>same g (Rw.bd hg).2 (by have:=(Rw.bd hg).1; omega)
  have M7:Many (BoxR h.size h7) vs done:=M.imp fun v e E=>E.keep fun g _ h1 h2'=>same g h2' (by omega)
  have Rb7:Row h2.size h7 5 1 v.f_Body (b8 x.2.2.2):=Rb.keep fun g hg=>by
   have:=Rb.bd hg
   rw [X7.block g (by omega),U6.block g (by omega) (by omega),X4.block g (by omega)]
  have M8:Many (BoxR h.size h7) (vs ++ [v]) (done ++ [x]):=M7.snoc ⟨BA.t,BA.e,BA.n,Rb7.mono (by omega)⟩
  have sl:s.len=done.length:=by
   have:=Rw.1
   rw [Go.Q.Rw.fm_len (w:=15) (fun x=>rfl)] at this
   have:=M.l
   omega
  have U27:Upd r h h7:=U2.trans ⟨by omega,fun g hg hr=>same g hg hr⟩
  refine App.row Rw7 (by omega) rfl rfl (oneC (by kernel_rfl)) (by omega) (by simp only [maxLen]; omega) fun s8 h8 R8 l8 z8 F8 _=>⟨_,rfl,?_⟩
  have sb:∀ g,s.blk=some g->h.size<=g:=fun g hg=>(Rw7.bd hg).1
  have old8:∀ g,g < h7.size->g < h.size->h8[g]? = h7[g]?:=fun g hg hg2=>F8 g hg fun q=>by have:=sb g q; omega
  rw [wrapU64 (x:=i - 1) (by omega) (by omega)]
  refine ⟨⟨done ++ [x],rest,vs ++ [v],l3,by rw [he,List.append_assoc]; rfl,by dsimp only; omega,ey,R7.keep ⟨z8,fun g hg=>old8 g (by have:=R7.B; have:=R7.lt; omega) (by have:=R7.B; omega)⟩ (old8 r R7.lt Rl),⟨by have:=U27.size; omega,fun g hg hr=>(old8 g (by have:=U27.size; omega) hg).trans (U27.block g hg hr)⟩,by rw [List.flatMap_append]; simpa using R8,?_⟩,by dsimp only; omega⟩
  exact M8.imp fun v e E=>⟨E.t,E.e,E.n,E.r.keep fun g hg=>F8 g (E.r.bd hg).2 fun q=>Row.ne_row E.r Rw7 (by decide) hg q⟩
theorem rchain_ok {c:Int × List Int} {k:S_api_Chain->Heap->Prop} (R:Rd B h r l) (e:chC.get l=some (c,l'))
  (H:∀ v h',ChAt v c->Rd B h' r l'->Upd r h h'->k v h'):strong_reader_chain (some ⟨r,0,none⟩) k h:=by
 obtain ⟨l1,g1,g2⟩:=bind_parts e
 have Rl:=R.lt
 have RB:=R.B
 unfold strong_reader_chain
 refine bx0 fun h2 P2 X2=>?_
 have z2:=X2.size
 have p2:=P2.lt
 refine rshort_ok (R.ext X2) g1 fun h4 R4 U4=>?_
 have z4:=U4.size
 refine bx (cs:=S_api_Chain.cs ⟨c.1,[]⟩) rfl (by show 33<=33; omega) fun h6 P6 X6=>?_
 have z6:=X6.size
 have p6:=P6.lt
 have R6:=R4.ext X6
 have hn:32<=l1.length/\c.2=l1.take 32/\l'=l1.drop 32:=by
  have g2:(if 32<=l1.length then some (l1.take 32,l1.drop 32) else none)=some (c.2,l'):=g2
  split at g2
  ·rename_i q
   obtain ⟨a,b⟩:=Prod.mk.inj (Option.some.inj g2)
   exact ⟨q,a.symm,b.symm⟩
  ·cases g2
 refine ⟨_,by omega,by omega,by omega,rfl,?_⟩
 rw [show subS ⟨some ((⟨h4.size,0,none⟩:Addr).add 1),32,32⟩ 1 (0:Int).toNat (32:Int).toNat 32=⟨some ((⟨h4.size,0,none⟩:Addr).add 1),32,32⟩ from subF]
 refine rarray_ok (off:=1) (n:=32) R6 P6 (by omega) (by omega) (by show 1 + 32<=33; omega) hn.1 (by omega) fun h8 R8 F8 z8 P8=>?_
 have kl:c.2.length=32:=by rw [hn.2.1,List.length_take]; omega
 rw [← hn.2.2] at R8
 rw [← hn.2.1] at P8
 have P8:Blk h8 h4.size (S_api_Chain.cs ⟨c.1,c.2⟩) 35:=by
  have:S_api_Chain.cs ⟨c.1,c.2⟩=(S_api_Chain.cs ⟨c.1,[]⟩).take 1 ++ b8 c.2 ++ (S_api_Chain.cs ⟨c.1,[]⟩).drop (1 + 32):=by
   show [_] ++ arr 32 .u8 c.2=[_] ++ b8 c.2 ++ []
   rw [arr_full kl,List.append_nil]
  rw [this]; exact P8
 have P2':Blk h8 h.size (S_api_Chain.cs ⟨0,[]⟩) 35:=P2.old (by
  rw [F8 h.size (by omega) (by omega) (by omega),X6.block h.size (by omega),U4.block h.size (by omega) (by omega)])
 refine ⟨⟨c.1,c.2⟩,CellsAt.of_blk P8,bset P2' rfl (by show 33<=33; omega) fun h9 P9 U9=>⟨⟨c.1,c.2⟩,CellsAt.of_blk P9,H _ h9 ⟨rfl,rfl⟩ (R8.keep (U9.ext (by omega) (by omega)) (U9.block r R8.lt (by omega))) ⟨by have:=U9.size; omega,fun g hg hr=>?_⟩⟩⟩
 rw [U9.block g (by omega) (by omega),F8 g (by omega) (by omega) hr,X6.block g (by omega),U4.block g (by omega) hr,X2.block g hg]
end
end Go.Q.Yk
end
section
set_option maxRecDepth 100000
/- Strong: whether what is kept may be. -/
namespace Go.Q.Yk
open Go.Q.Sg
section
variable {h:Heap}
theorem counts_ok {v:S_api_Mem} {m:MemV} {k:Bool->Heap->Prop} (M:MemAt h v m) (H:∀ h',Ext h.size h h'->k (decide (cntsM m)) h'):strong_counts v k h:=by
 unfold strong_counts
 refine bx0 fun h2 P X=>?_
 have H:=H h2 X
 have cl:v.f_Chains.len=m.chains.length:=by obtain ⟨vs,a,b⟩:=M.chains; have:=a.l; have:=b.l; omega
 have f8:∀ {a:Addr},k false h2->strong_counts_g7 a false k h2:=fun H=>by unfold strong_counts_g7; rw [if_neg (by simp)]; exact H
 have f7:∀ {a:Addr},k false h2->strong_counts_g6 a false k h2:=fun H=>by unfold strong_counts_g6; rw [if_neg (by simp)]; exact f8 H
 have f6:∀ {a:Addr},k false h2->strong_counts_g5 a false k h2:=fun H=>by unfold strong_counts_g5; rw [if_neg (by simp)]; exact f7 H
 have f5:∀ {a:Addr},k false h2->strong_counts_g4 a false k h2:=fun H=>by unfold strong_counts_g4; rw [if_neg (by simp)]; exact f6 H
 have f4:∀ {a:Addr},k false h2->strong_counts_g3 a false k h2:=fun H=>by unfold strong_counts_g3; rw [if_neg (by simp)]; exact f5 H
 have f3:∀ {a:Addr},k false h2->strong_counts_g2 a false k h2:=fun H=>by unfold strong_counts_g2; rw [if_neg (by simp)]; exact f4 H
 have f2:∀ {a:Addr},k false h2->strong_counts_g1 a false k h2:=fun H=>by unfold strong_counts_g1; rw [if_neg (by simp)]; exact f3 H
 have no:¬ cntsM m->k false h2:=fun q=>by rw [show decide (cntsM m)=false from by simpa using q] at H; exact H
 refine ⟨v.f_N,P.cl rfl,?_⟩
 rw [M.n]
 by_cases c1:1<=m.n
 rotate_left
 ·rw [if_neg (by rw [decide_eq_true_eq]; omega)]; exact f2 (no fun q=>c1 q.1)
 rw [if_pos (by rw [decide_eq_true_eq]; omega)]
 refine ⟨v.f_N,P.cl rfl,?_⟩
 rw [M.n]
 by_cases c2:m.n<=32
 rotate_left
 ·rw [show decide (m.n<=32)=false from by simpa using c2]; exact f2 (no fun q=>c2 q.2.1)
 rw [show decide (m.n<=32)=true from by simpa using c2]
 unfold strong_counts_g1
 rw [if_pos rfl]
 refine ⟨v.f_Node,P.cl0 rfl,?_⟩
 rw [M.node]
 by_cases c3:0<=m.node
 rotate_left
 ·rw [show decide (m.node>=0)=false from by simpa using c3]; exact f3 (no fun q=>c3 q.2.2.1)
 rw [show decide (m.node>=0)=true from by simpa using c3]
 unfold strong_counts_g2
 rw [if_pos rfl]
 refine ⟨v.f_Node,P.cl0 rfl,v.f_N,P.cl rfl,?_⟩
 rw [M.node,M.n]
 by_cases c4:m.node < m.n
 rotate_left
 ·rw [show decide (m.node < m.n)=false from by simpa using c4]; exact f4 (no fun q=>c4 q.2.2.2.1)
 rw [show decide (m.node < m.n)=true from by simpa using c4]
 unfold strong_counts_g3
 rw [if_pos rfl]
 refine ⟨v.f_T,P.cl rfl,?_⟩
 rw [M.t]
 by_cases c5:1<=m.t
 rotate_left
 ·rw [show decide (m.t>=1)=false from by simpa using c5]; exact f5 (no fun q=>c5 q.2.2.2.2.1)
 rw [show decide (m.t>=1)=true from by simpa using c5]
 unfold strong_counts_g4
 rw [if_pos rfl]
 refine ⟨v.f_T,P.cl rfl,v.f_N,P.cl rfl,?_⟩
 rw [M.t,M.n]
 by_cases c6:m.t<=m.n
 rotate_left
 ·rw [show decide (m.t<=m.n)=false from by simpa using c6]; exact f6 (no fun q=>c6 q.2.2.2.2.2.1)
 rw [show decide (m.t<=m.n)=true from by simpa using c6]
 unfold strong_counts_g5
 rw [if_pos rfl]
 refine ⟨v.f_Vote,P.cl rfl,?_⟩
 rw [M.vote]
 by_cases c7:0<=m.vote
 rotate_left
 ·rw [show decide (m.vote>=0)=false from by simpa using c7]; exact f7 (no fun q=>c7 q.2.2.2.2.2.2.1)
 rw [show decide (m.vote>=0)=true from by simpa using c7]
 unfold strong_counts_g6
 rw [if_pos rfl]
 refine ⟨v.f_Vote,P.cl rfl,v.f_N,P.cl rfl,?_⟩
 rw [M.vote,M.n]
 by_cases c8:m.vote<=m.n
 rotate_left
 ·rw [show decide (m.vote<=m.n)=false from by simpa using c8]; exact f8 (no fun q=>c8 q.2.2.2.2.2.2.2.1)
 rw [show decide (m.vote<=m.n)=true from by simpa using c8]
 unfold strong_counts_g7
 rw [if_pos rfl]
 refine ⟨v.f_Chains,P.cl rfl,v.f_N,P.cl rfl,?_⟩
 rw [M.n,cl]
 unfold strong_counts_g8
 rw [show ((m.chains.length:Int) == m.n)=decide (cntsM m) from by
  rw [Bool.eq_iff_iff,beq_iff_eq,decide_eq_true_eq]
  exact ⟨fun q=>⟨c1,c2,c3,c4,c5,c6,c7,c8,q⟩,fun q=>q.2.2.2.2.2.2.2.2⟩]
 exact H
theorem mget_mem {K V:Type} [DecidableEq K] (k:K):∀ l:List (K × V),(mget l k).isSome=decide (k∈l.map (·.1))
 | []=>rfl
 | p :: r=>by
  have ih:=mget_mem k r
  unfold mget
  by_cases hp:p.1=k
  ·rw [if_pos hp]; simp [hp]
  ·rw [if_neg hp,ih]
   simp [Ne.symm hp]
theorem boxes_ok {s:Slc} {vs:List S_api_Box} {bs:List BoxV} {k:Int->Heap->Prop} (L:LsAt S_api_Box.cs 15 h s vs) (M:Many (BoxAt h) vs bs) (w:∀ b∈bs,WfB b) (wl:bs.length<=1000000)
  (H:∀ h',Ext h.size h h'->k (bxsE [] bs) h'):strong_boxes s k h:=by
 unfold strong_boxes
 have vl:=L.l
 have ml:=M.l
 refine ⟨_,_,rfl,rfl,?_⟩
 have X0:=Ext.push h (.map #[] 0) (Nat.le_refl _)
 have M0:=MapSt.mk0 (kf:=fun v:ArrK 12=>Value.agg (v.1.map (Value.int .u8)).toArray) (vf:=fun v:S_anon165=>Value.agg (S_anon165.cs v).toArray) h
 generalize h.push (.map #[] 0)=h1 at *
 refine ⟨fun i h'=>0<=i/\i<=bs.length/\Ext h.size h h'/\(∃ lst,MapSt (fun v:ArrK 12=>Value.agg (v.1.map (Value.int .u8)).toArray) (fun v:S_anon165=>Value.agg (S_anon165.cs v).toArray) h' h.size lst/\lst.map (fun p=>p.1.1)=(bs.take i.toNat).map (fun b=>b.2.2.1))/\bxsE [] bs=bxsE ((bs.take i.toNat).map (fun b=>b.2.2.1)) (bs.drop i.toNat),fun i _=>(bs.length - i).toNat,⟨by omega,by omega,X0,⟨[],M0,rfl⟩,rfl⟩,?_⟩
 rintro i h2 ⟨i0,i1,X2,⟨lst,MS,hk⟩,hb⟩
 unfold strong_boxes_l1b
 by_cases c:i < bs.length
 rotate_left
 ·rw [if_neg (by rw [decide_eq_true_eq]; omega)]
  rw [show i.toNat=bs.length from by omega,List.drop_length,bxsE] at hb
  have:=H h2 X2
  rw [hb] at this
  exact this
 rw [if_pos (by rw [decide_eq_true_eq]; omega)]
 obtain ⟨b,hbx⟩:∃ b,bs[i.toNat]? = some b:=⟨_,List.getElem?_eq_getElem (by omega)⟩
 obtain ⟨a,v,ha,_,hlt,hv,hc⟩:=(L.ext X2).it i0 (by omega)
 have E:=(M.r _ _ _ hv hbx).ext X2
 have wb:=w b (List.mem_of_getElem? hbx)
 have dr:bs.drop i.toNat=b :: bs.drop (i + 1).toNat:=by
  rw [show (i + 1).toNat=i.toNat + 1 from by omega]
  have:=List.drop_eq_getElem_cons (l:=bs) (i:=i.toNat) (by omega)
  rw [this]
  congr 1
  have:=(List.getElem?_eq_some_iff.1 hbx).2
  exact this
 rw [dr,bxsE] at hb
 refine ⟨a,ha,i0,hlt,v,hc,bx (cs:=S_api_Box.cs v) rfl (by show 15<=15; omega) fun h3 P3 X3=>⟨v,CellsAt.of_blk P3,Check_ok (E.ext X3) wb fun h4 X4=>?_⟩⟩
 have z2:=X2.size
 have z3:=X3.size
 have z4:=X4.size
 have X04:=X2.trans ((X3.mono z2).trans (X4.mono (by omega)))
 have rl:=MS.lt
 have MS4:=(MS.ext X3 rl).ext X4 (by omega)
 by_cases ok:boxOk b=true
 rotate_left
 ·rw [if_neg ok] at hb ⊢
  rw [if_pos (by simp)]
  have:=H h4 X04
  rw [hb] at this
  exact this
 rw [if_pos ok] at hb ⊢
 rw [if_neg (by simp)]
 have P4:=P3.ext X4 P3.lt
 have nl:v.f_Nonce.length=12:=by rw [E.n]; exact wb.nl
 refine ⟨v.f_Nonce,P4.cls rfl,lst,MS4,bx (cs:=S_anon165.cs ((mget lst (arK 12 v.f_Nonce)).getD ⟨⟩)) rfl (by show 0<=0; omega) fun h5 P5 X5=>?_⟩
 have z5:=X5.size
 have X05:=X04.trans (X5.mono (by omega))
 have eq:(mget lst (arK 12 v.f_Nonce)).isSome=decide (b.2.2.1∈(bs.take i.toNat).map (fun b=>b.2.2.1)):=by
  rw [mget_mem,arK_of nl,← hk]
  refine decide_eq_decide.2 ⟨fun q=>?_,fun q=>?_⟩
  ·obtain ⟨p,hp,e⟩:=List.mem_map.1 q
   exact List.mem_map.2 ⟨p,hp,by rw [e]; exact E.n⟩
  ·obtain ⟨p,hp,e⟩:=List.mem_map.1 q
   exact List.mem_map.2 ⟨p,hp,Subtype.ext (by rw [e]; exact E.n.symm)⟩
 rw [eq]
 by_cases ci:b.2.2.1∈(bs.take i.toNat).map (fun b=>b.2.2.1)
 ·rw [if_pos ci] at hb
  rw [if_pos (by simpa using ci)]
  have:=H h5 X05
  rw [hb] at this
  exact this
 ·rw [if_neg ci] at hb
  rw [if_neg (by simpa using ci)]
  have MS5:=MS4.ext X5 (by omega)
  refine ⟨v.f_Nonce,(P4.ext X5 (Nat.lt_of_lt_of_le P3.lt z4)).cls rfl,h.size,lst,_,rfl,MS5,rfl,?_⟩
  rw [wrapI64 (x:=i + 1) (by omega) (by omega)]
  have MS6:=MS5.put keyA_74 (arK 12 v.f_Nonce) (⟨⟩:S_anon165)
  refine ⟨⟨by omega,by omega,X05.trans (Ext.setM _ _ _ (Nat.le_refl _)),⟨_,MS6,?_⟩,?_⟩,by dsimp only; omega⟩
  ·have nm:∀ p∈lst,p.1≠arK 12 v.f_Nonce:=fun p hp q=>ci (by
    rw [← hk]
    exact List.mem_map.2 ⟨p,hp,by rw [q,arK_of nl]; exact E.n⟩)
   rw [mput_none nm,List.map_append,hk,show (i + 1).toNat=i.toNat + 1 from by omega,List.take_add_one,hbx,List.map_append,arK_of nl]
   show _ ++ [v.f_Nonce]=_ ++ [b.2.2.1]
   rw [E.n]
  ·rw [hb,show (i + 1).toNat=i.toNat + 1 from by omega,List.take_add_one,hbx,List.map_append]
   rfl
theorem chk_ok {v:S_api_Mem} {m:MemV} {k:Int->Heap->Prop} (M:MemAt h v m) (w:WfM m) (H:∀ h',Ext h.size h h'->k (chkE m) h'):strong_check v k h:=by
 unfold strong_check
 refine bx0 fun h2 P X2=>⟨v,CellsAt.of_blk P,counts_ok (M.ext X2) fun h3 X3=>?_⟩
 have X03:=X2.trans (X3.mono X2.size)
 have P3:=P.ext X3 P.lt
 have M3:=M.ext X03
 unfold chkE at H
 by_cases c:cntsM m
 rotate_left
 ·rw [if_pos (by simpa using c)]
  have:=H h3 X03
  rw [if_neg c] at this
  exact this
 rw [if_neg (by simpa using c)]
 rw [if_pos c] at H
 obtain ⟨es,e1,e2⟩:=M3.ents
 obtain ⟨bs,b1,b2⟩:=M3.boxes
 have el:v.f_Entries.len=m.ents.length:=by have:=e1.l; have:=e2.l; omega
 have bl:v.f_Boxes.len=m.boxes.length:=by have:=b1.l; have:=b2.l; omega
 have long:(64 < m.ents.length∨64 < m.boxes.length)->strong_check_g1 (⟨h.size,0,none⟩:Addr) true k h3:=fun q=>by
  unfold strong_check_g1
  rw [if_pos rfl]
  have:=H h3 X03
  rw [if_pos q] at this
  exact this
 refine ⟨v.f_Entries,P3.cl rfl,?_⟩
 by_cases ce:64 < m.ents.length
 ·rw [if_pos (by rw [decide_eq_true_eq]; omega)]
  exact long (.inl ce)
 rw [if_neg (by rw [decide_eq_true_eq]; omega)]
 refine ⟨v.f_Boxes,P3.cl rfl,?_⟩
 by_cases cb:64 < m.boxes.length
 ·rw [show decide ((v.f_Boxes.len:Int) > 64)=true from by rw [decide_eq_true_eq]; omega]
  exact long (.inr cb)
 rw [show decide ((v.f_Boxes.len:Int) > 64)=false from by rw [decide_eq_false_iff_not]; omega]
 unfold strong_check_g1
 rw [if_neg (by simp)]
 rw [if_neg (by omega)] at H
 refine ⟨v.f_Boxes,P3.cl rfl,boxes_ok b1 b2 w.boxes w.boxesl fun h4 X4=>?_⟩
 have X04:=X03.trans (X4.mono X03.size)
 by_cases cz:bxsE [] m.boxes=0
 rotate_left
 ·rw [if_pos (by simpa using cz)]
  have:=H h4 X04
  rw [if_pos cz] at this
  exact this
 rw [if_neg (by simpa using cz)]
 rw [if_neg (by simpa using cz)] at H
 refine ⟨v,CellsAt.of_blk (P3.ext X4 P3.lt),SPut_ok (M.ext X04) w fun s h5 R X5=>?_⟩
 have X05:=X04.trans (X5.mono X04.size)
 have:=H h5 X05
 rw [Row.pb R]
 by_cases cl:26624 < (memC.put m.tup).length
 ·rw [if_pos cl] at this
  rw [if_pos (by rw [decide_eq_true_eq]; omega)]
  exact this
 ·rw [if_neg cl] at this
  rw [if_neg (by rw [decide_eq_true_eq]; omega)]
  exact this
theorem SChk_ok {v:S_api_Mem} {m:MemV} {k:Int->Heap->Prop} (M:MemAt h v m) (w:WfM m) (H:∀ h',Ext h.size h h'->k (chkM m) h'):strong_Check v k h:=by
 unfold strong_Check
 refine bx0 fun h2 P X2=>⟨v,CellsAt.of_blk P,chk_ok (M.ext X2) w fun h3 X3=>?_⟩
 have X03:=X2.trans (X3.mono X2.size)
 have:=H h3 X03
 unfold chkM at this
 by_cases c:chkE m=7
 ·rw [if_pos c] at this
  rw [if_pos (by simpa using c)]; exact this
 ·rw [if_neg c] at this
  rw [if_neg (by simpa using c)]; exact this
end
end Go.Q.Yk
end
section
set_option maxRecDepth 100000
/- Strong: what was laid is read: what is kept. -/
namespace Go.Q.Yk
open Go.Q.Sg
/-- what is kept, in blocks from B on -/
def MemH (B:Nat) (h:Heap) (v:S_api_Mem) (m:MemV):Prop:=∀ h',(∀ g,B<=g->g < h.size->h'[g]? = h[g]?)->MemAt h' v m
theorem MemH.now {B:Nat} {h:Heap} {v:S_api_Mem} {m:MemV} (M:MemH B h v m):MemAt h v m:=M h fun _ _ _=>rfl
theorem MemH.keep {B:Nat} {h h':Heap} {v:S_api_Mem} {m:MemV} (M:MemH B h v m) (e:∀ g,B<=g->g < h.size->h'[g]? = h[g]?) (z:h.size<=h'.size):MemH B h' v m:=fun h2 k=>M h2 fun g hg hl=>(k g hg (by omega)).trans (e g hg hl)
/-- a step that touches two blocks and new ones -/
structure Up2 (r q:Nat) (h h':Heap):Prop where
 size:h.size<=h'.size
 block:∀ g,g < h.size->g≠r->g≠q->h'[g]? = h[g]?
theorem Up2.trans {r q:Nat} {a b c:Heap} (p:Up2 r q a b) (s:Up2 r q b c):Up2 r q a c:=⟨Nat.le_trans p.size s.size,fun g h1 h2 h3=>(s.block g (Nat.lt_of_lt_of_le h1 p.size) h2 h3).trans (p.block g h1 h2 h3)⟩
theorem Up2.r {r q:Nat} {h h':Heap} (U:Upd r h h'):Up2 r q h h':=⟨U.size,fun g h1 h2 _=>U.block g h1 h2⟩
theorem Up2.q {r q:Nat} {h h':Heap} (U:Upd q h h'):Up2 r q h h':=⟨U.size,fun g h1 _ h3=>U.block g h1 h3⟩
theorem Up2.row {r q C E w:Nat} {h h':Heap} {s:Slc} {xs:List Value} (U:Up2 r q h h') (R:Row C h E w s xs) (hr:r < C) (hq:q < C):Row C h' E w s xs:=R.keep fun g hg=>U.block g (R.bd hg).2 (by have:=(R.bd hg).1; omega) (by have:=(R.bd hg).1; omega)
abbrev zMem:S_api_Mem:=⟨0,0,0,0,0,⟨0,[]⟩,[],0,0,0,0,⟨none,0,0⟩,⟨none,0,0⟩,⟨none,0,0⟩,⟨none,0,0⟩,0⟩
/-- where the reading stands -/
structure GS (h0 h:Heap) (r q:Nat) (l:List Int) (v:S_api_Mem):Prop where
 P:Blk h h0.size (S_api_Mem.cs zMem) 33
 R:Rd h0.size h r l
 Q:Blk h q (S_api_Mem.cs v) 33
 X:Ext h0.size h0 h
 o1:h0.size < r
 o2:r < q
section
variable {h0 h h':Heap} {r q:Nat} {l l':List Int} {v v':S_api_Mem}
theorem GS.upd (G:GS h0 h r q l v) (U:Upd r h h') (R:Rd h0.size h' r l'):GS h0 h' r q l' v :=
 have o1:=G.o1
 have o2:=G.o2
 ⟨U.blk G.P (by omega),R,U.blk G.Q (by omega),G.X.trans (U.ext (by omega) G.X.size),o1,o2⟩
theorem GS.set (G:GS h0 h r q l v) (U:Upd q h h') (Q:Blk h' q (S_api_Mem.cs v') 33):GS h0 h' r q l v' :=
 have o1:=G.o1
 have o2:=G.o2
 have X:=U.ext (B:=h0.size) (by omega) G.X.size
 ⟨U.blk G.P (by omega),G.R.keep X (U.block r G.R.lt (by omega)),Q,G.X.trans X,o1,o2⟩
theorem bytes_parts {n:Nat} {x:List Int} (e:(bytesC n).get l=some (x,l')):n<=l.length/\x=l.take n/\l'=l.drop n:=by
 have e:(if n<=l.length then some (l.take n,l.drop n) else none)=some (x,l'):=e
 split at e
 ·rename_i q
  obtain ⟨a,b⟩:=Prod.mk.inj (Option.some.inj e)
  exact ⟨q,a.symm,b.symm⟩
 ·cases e
/-- what was read so far, but the chains -/
structure GRow (C:Nat) (h:Heap) (v:S_api_Mem) (m:MemV) (sx:Slc):Prop where
 x:Row C h 5 1 sx (b8 m.x)
 snap:Row C h 5 1 v.f_Snap (b8 m.snap)
 ents:∃ vs,Row C h 117 2 v.f_Entries (vs.flatMap S_api_Entry.cs)/\Many (EntR C h) vs m.ents
theorem GRow.keep {C:Nat} {m:MemV} {sx:Slc} (G:GRow C h v m sx) (e:∀ g,C<=g->g < h.size->(∀ s,v.f_Chains=s->s.blk≠some g)->h'[g]? = h[g]?) (nc:∀ g s E w xs,(E=5∨E=117)->Row C h E w s xs->s.blk=some g->v.f_Chains.blk≠some g):GRow C h' v m sx:=by
 have k:∀ {E w:Nat} {s:Slc} {xs:List Value},(E=5∨E=117)->Row C h E w s xs->Row C h' E w s xs:=fun hE R=>R.keep fun g hg=>e g (R.bd hg).1 (R.bd hg).2 fun s hs=>by subst hs; exact nc g _ _ _ _ hE R hg
 obtain ⟨vs,a,b⟩:=G.ents
 exact ⟨k (.inl rfl) G.x,k (.inl rfl) G.snap,vs,k (.inr rfl) a,b.imp fun v e E=>⟨E.t,k (.inl rfl) E.r⟩⟩
theorem GRow.up2 {C:Nat} {m:MemV} {sx:Slc} (G:GRow C h v m sx) (U:Up2 r q h h') (hr:r < C) (hq:q < C):GRow C h' v m sx:=by
 obtain ⟨vs,a,b⟩:=G.ents
 exact ⟨U.row G.x hr hq,U.row G.snap hr hq,vs,U.row a hr hq,b.imp fun v e E=>⟨E.t,U.row E.r hr hq⟩⟩
end
end Go.Q.Yk
end

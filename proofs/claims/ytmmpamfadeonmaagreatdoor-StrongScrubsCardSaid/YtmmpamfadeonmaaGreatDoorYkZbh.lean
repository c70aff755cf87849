/- A part of the proof of statements of this seat: lemmas, no statement of their own. -/
import Derived.Test.YtmmpamfadeonmaaGreatDoorYkZan
import Derived.Test.YtmmpamfadeonmaaGreatDoorYkZbg
import Derived.Test.YtmmpamfadeonmaaGreatDoorYkZaj
import Derived.Test.YtmmpamfadeonmaaGreatDoorYkZbd
set_option linter.unusedVariables false
set_option linter.unusedSimpArgs false
section
set_option maxRecDepth 100000
/- Strong, the document's: is there more than is looked at? -/
namespace Go.Q.Yk
open Go.Q.Sg
section
variable {h:Heap}
theorem G23_ok {s:Slc} {vs:List S_api_Entry} {es:List Ent} {k:Bool->Heap->Prop} (L:LsAt S_api_Entry.cs 2 h s vs) (M:Many (EntAt h) vs es) (H:∀ b:Bool,(b=false->es.length<=100/\∀ e∈es,e.2.length<=300)->k b h):ref23_Great s k h:=by
 have sl:=L.l
 have ml:=M.l
 unfold ref23_Great
 refine ⟨fun i h'=>0<=i/\i<=100/\h'=h/\∀ j:Nat,(j:Int) < i->∀ e,es[j]? = some e->e.2.length<=300,fun i _=>(100 - i).toNat,⟨by omega,by omega,rfl,fun j hj=>by omega⟩,?_⟩
 rintro i h' ⟨i0,i1,rfl,hd⟩
 unfold ref23_Great_l1b
 by_cases c:i < s.len/\i < 100
 ·rw [if_pos (by simpa using c)]
  obtain ⟨a,u,ha,_,hlt,hu,hc⟩:=L.it i0 (by omega)
  obtain ⟨e,he⟩:∃ e,es[i.toNat]? = some e:=⟨_,List.getElem?_eq_getElem (by omega)⟩
  have E:=M.r _ _ _ hu he
  refine ⟨a,ha,i0,hlt,u.f_Cmd,zcls hc rfl,?_⟩
  by_cases q:(u.f_Cmd.len:Int) > 300
  ·rw [if_pos (by rw [decide_eq_true_eq]; exact q)]
   exact H true fun f=>by cases f
  ·rw [if_neg (by rw [decide_eq_true_eq]; exact q),wrapI64 (x:=i + 1) (by omega) (by omega)]
   refine ⟨_,rfl,⟨by omega,by omega,rfl,fun j hj x hx=>?_⟩,by dsimp only; omega⟩
   by_cases f:j=i.toNat
   ·subst f; rw [he] at hx; cases hx; have:=E.l; omega
   ·exact hd j (by omega) x hx
 ·rw [if_neg (by simpa using c)]
  refine H _ fun q=>?_
  have q:¬ (s.len:Int) > 100:=by simpa using q
  refine ⟨by omega,fun e he=>?_⟩
  obtain ⟨j,hj⟩:=List.getElem?_of_mem he
  have:=(List.getElem?_eq_some_iff.1 hj).1
  exact hd j (by omega) e hj
/-- the bounds that Great finds -/
structure GB (v:S_api_Mem) (es:List Ent) (bs:List BoxV):Prop where
 e:es.length<=100/\∀ e∈es,e.2.length<=300
 s:v.f_Snap.len<=1500
 c:v.f_Chains.len<=40
 b:bs.length<=70/\∀ b∈bs,b.1.length<=100/\b.2.2.2.length<=4200
theorem G28_ok {v:S_api_Mem} {vs:List S_api_Entry} {es:List Ent} {us:List S_api_Box} {bs:List BoxV} {k:Bool->Heap->Prop} (L:LsAt S_api_Entry.cs 2 h v.f_Entries vs) (M:Many (EntAt h) vs es) (LB:LsAt S_api_Box.cs 15 h v.f_Boxes us) (MB:Many (BoxAt h) us bs)
  (H:∀ (b:Bool) h',Ext h.size h h'->(b=false->GB v es bs)->k b h'):ref28_Great v k h:=by
 have ml:=MB.l
 have bl:=LB.l
 unfold ref28_Great
 refine bx0 fun h2 P2 X2=>⟨v.f_Entries,P2.cl rfl,G23_ok (L.ext X2) (M.imp fun v e E=>E.ext X2) fun b1 hb1=>?_⟩
 have z2:=X2.size
 have yes:k true h2:=H true h2 X2 fun q=>by cases q
 have g3:ref28_Great_g3 ⟨h.size,0,none⟩ true k h2:=by unfold ref28_Great_g3; rw [if_pos rfl]; exact yes
 have g2:ref28_Great_g2 ⟨h.size,0,none⟩ true k h2:=by unfold ref28_Great_g2; rw [if_pos rfl]; exact g3
 have g1:ref28_Great_g1 ⟨h.size,0,none⟩ true k h2:=by unfold ref28_Great_g1; rw [if_pos rfl]; exact g2
 cases b1 with
 | true=>rw [if_pos rfl]; exact g1
 | false =>
  rw [if_neg (by simp)]
  have e1:=hb1 rfl
  refine ⟨v.f_Snap,P2.cl rfl,?_⟩
  by_cases c1:(v.f_Snap.len:Int) > 1500
  ·rw [show decide ((v.f_Snap.len:Int) > 1500)=true from by rw [decide_eq_true_eq]; exact c1]; exact g1
  rw [show decide ((v.f_Snap.len:Int) > 1500)=false from by rw [decide_eq_false_iff_not]; exact c1]
  unfold ref28_Great_g1
  rw [if_neg (by simp)]
  refine ⟨v.f_Chains,P2.cl rfl,?_⟩
  by_cases c2:(v.f_Chains.len:Int) > 40
  ·rw [show decide ((v.f_Chains.len:Int) > 40)=true from by rw [decide_eq_true_eq]; exact c2]; exact g2
  rw [show decide ((v.f_Chains.len:Int) > 40)=false from by rw [decide_eq_false_iff_not]; exact c2]
  unfold ref28_Great_g2
  rw [if_neg (by simp)]
  refine ⟨v.f_Boxes,P2.cl rfl,?_⟩
  by_cases c3:(v.f_Boxes.len:Int) > 70
  ·rw [show decide ((v.f_Boxes.len:Int) > 70)=true from by rw [decide_eq_true_eq]; exact c3]; exact g3
  rw [show decide ((v.f_Boxes.len:Int) > 70)=false from by rw [decide_eq_false_iff_not]; exact c3]
  unfold ref28_Great_g3
  rw [if_neg (by simp)]
  refine ⟨fun i h'=>0<=i/\i<=bs.length/\h'=h2/\∀ j:Nat,(j:Int) < i->∀ e,bs[j]? = some e->e.1.length<=100/\e.2.2.2.length<=4200,fun i _=>(bs.length - i).toNat,⟨by omega,by omega,rfl,fun j hj=>by omega⟩,?_⟩
  rintro i h' ⟨i0,i1,rfl,hd⟩
  unfold ref28_Great_l4b
  refine ⟨v.f_Boxes,P2.cl rfl,?_⟩
  by_cases c:i < bs.length
  ·rw [if_pos (by rw [decide_eq_true_eq]; omega)]
   obtain ⟨a,u,ha,_,hlt,hu,hc⟩:=(LB.ext X2).it i0 (by omega)
   obtain ⟨e,he⟩:∃ e,bs[i.toNat]? = some e:=⟨_,List.getElem?_eq_getElem (by omega)⟩
   have E:=MB.r _ _ _ hu he
   refine ⟨v.f_Boxes,P2.cl rfl,a,ha,i0,hlt,u.f_Body,zcls hc rfl,?_⟩
   by_cases q:(u.f_Body.len:Int) > 4200
   ·rw [if_pos (by rw [decide_eq_true_eq]; exact q)]
    unfold ref28_Great_g5
    rw [if_pos rfl]
    exact yes
   rw [if_neg (by rw [decide_eq_true_eq]; exact q)]
   refine ⟨v.f_Boxes,P2.cl rfl,a,ha,i0,hlt,u.f_Tenant,cls0 hc rfl,?_⟩
   unfold ref28_Great_g5
   by_cases q2:(u.f_Tenant.size:Int) > 100
   ·rw [if_pos (by rw [decide_eq_true_eq]; exact q2)]
    exact yes
   rw [if_neg (by rw [decide_eq_true_eq]; exact q2),wrapI64 (x:=i + 1) (by omega) (by omega)]
   refine ⟨_,rfl,⟨by omega,by omega,rfl,fun j hj x hx=>?_⟩,by dsimp only; omega⟩
   by_cases f:j=i.toNat
   ·subst f
    rw [he] at hx; cases hx
    have l1:=E.l
    have l2:=congrArg List.length E.t
    rw [sB_len] at l2
    omega
   ·exact hd j (by omega) x hx
  ·rw [if_neg (by rw [decide_eq_true_eq]; omega)]
   refine H false h' X2 fun _=>⟨e1,by omega,by omega,by omega,fun b hb=>?_⟩
   obtain ⟨j,hj⟩:=List.getElem?_of_mem hb
   have:=(List.getElem?_eq_some_iff.1 hj).1
   exact hd j (by omega) b hj
theorem GC_ok {v:S_api_Change} {vs:List S_api_Entry} {es:List Ent} {us:List S_api_Box} {bs:List BoxV} {k:Bool->Heap->Prop} (L:LsAt S_api_Entry.cs 2 h v.f_Keep.f_Entries vs) (M:Many (EntAt h) vs es) (LB:LsAt S_api_Box.cs 15 h v.f_Boxes us) (MB:Many (BoxAt h) us bs)
  (H:∀ (b:Bool) h',Ext h.size h h'->(b=false->(es.length<=100/\∀ e∈es,e.2.length<=300)/\v.f_Keep.f_Snap.len<=1500/\v.f_Gone.len<=80/\v.f_Tenant.size<=100/\bs.length<=70/\∀ b∈bs,b.1.length<=100/\b.2.2.2.length<=4200)->k b h'):ref28_GreatChange v k h:=by
 unfold ref28_GreatChange
 refine bx0 fun h2 P2 X2=>⟨v.f_Keep.f_Entries,by rw [add2]; exact P2.cl rfl,G23_ok (L.ext X2) (M.imp fun v e E=>E.ext X2) fun b1 hb1=>?_⟩
 have z2:=X2.size
 have yes:k true h2:=H true h2 X2 fun q=>by cases q
 have g3:ref28_GreatChange_g3 ⟨h.size,0,none⟩ true k h2:=by unfold ref28_GreatChange_g3 ref28_GreatChange_g4; rw [if_pos rfl]; exact yes
 have g2:ref28_GreatChange_g2 ⟨h.size,0,none⟩ true k h2:=by unfold ref28_GreatChange_g2; rw [if_pos rfl]; exact g3
 have g1:ref28_GreatChange_g1 ⟨h.size,0,none⟩ true k h2:=by unfold ref28_GreatChange_g1; rw [if_pos rfl]; exact g2
 cases b1 with
 | true=>rw [if_pos rfl]; exact g1
 | false =>
  rw [if_neg (by simp)]
  have e1:=hb1 rfl
  refine ⟨v.f_Keep.f_Snap,by rw [add2]; exact P2.cl rfl,?_⟩
  by_cases c1:(v.f_Keep.f_Snap.len:Int) > 1500
  ·rw [show decide ((v.f_Keep.f_Snap.len:Int) > 1500)=true from by rw [decide_eq_true_eq]; exact c1]; exact g1
  rw [show decide ((v.f_Keep.f_Snap.len:Int) > 1500)=false from by rw [decide_eq_false_iff_not]; exact c1]
  unfold ref28_GreatChange_g1
  rw [if_neg (by simp)]
  refine ⟨v.f_Gone,P2.cl rfl,?_⟩
  by_cases c2:(v.f_Gone.len:Int) > 80
  ·rw [show decide ((v.f_Gone.len:Int) > 80)=true from by rw [decide_eq_true_eq]; exact c2]; exact g2
  rw [show decide ((v.f_Gone.len:Int) > 80)=false from by rw [decide_eq_false_iff_not]; exact c2]
  unfold ref28_GreatChange_g2
  rw [if_neg (by simp)]
  refine ⟨v.f_Tenant,P2.cl rfl,?_⟩
  by_cases c3:(v.f_Tenant.size:Int) > 100
  ·rw [show decide ((v.f_Tenant.size:Int) > 100)=true from by rw [decide_eq_true_eq]; exact c3]; exact g3
  rw [show decide ((v.f_Tenant.size:Int) > 100)=false from by rw [decide_eq_false_iff_not]; exact c3]
  unfold ref28_GreatChange_g3
  rw [if_neg (by simp)]
  refine ⟨v.f_Boxes,P2.cl rfl,?_⟩
  refine G28_ok (vs:=[]) (es:=[]) ⟨rfl,fun i x hx=>by simp at hx⟩ Many.nil (LB.ext X2) (MB.imp fun u b E=>E.ext X2) fun b h3 X3 hb=>?_
  unfold ref28_GreatChange_g4
  exact H b h3 (X2.trans (X3.mono z2)) fun q=>⟨e1,by omega,by omega,by omega,(hb q).b⟩
end
end Go.Q.Yk
end
section
set_option maxRecDepth 100000
/- Strong, the document's: forms. -/
namespace Go.Q.Yk
open Go.Q.Sg
theorem DFm_ok {n w:Int} {k:Slc->Heap->Prop} {h:Heap} (w0:0<=w) (w1:w<=8) (n0:0<=n) (n1:n < 18446744073709551616) (H:∀ s' h',Row h.size h' 5 1 s' (b8 (formL n w.toNat))->Ext h.size h h'->k s' h'):ref01_Form n w k h:=by
 unfold ref01_Form
 refine ⟨fun q h'=>∃ l,Row h.size h' 5 1 q.2.1 (b8 l)/\l ++ formL q.1 (w - q.2.2).toNat=formL n w.toNat/\0<=q.1/\q.1 < 18446744073709551616/\0<=q.2.2/\q.2.2<=w/\Ext h.size h h',fun q _=>(w - q.2.2).toNat,⟨[],Row.nil _ _ _ _,by simp,n0,n1,by simp,by simpa using w0,Ext.refl _ _⟩,?_⟩
 rintro n s i h1 ⟨l,R,hL,n0,n1,i0,i1,X⟩
 simp only at R hL n0 n1 i0 i1
 unfold ref01_Form_l1b
 have ht:Int.tmod n 256=n % 256:=Int.tmod_eq_emod_of_nonneg n0
 have hd:Int.tdiv n 256=n / 256:=Int.tdiv_eq_ediv_of_nonneg n0
 rw [ht,hd,wU8,show n % 256 % 256=n % 256 from by omega]
 by_cases hi:i < w
 ·rw [if_pos (by simpa using hi)]
  refine ⟨_,_,rfl,rfl,?_⟩
  have hll:l.length<=8:=by have:=congrArg List.length hL; simp [formL_length] at this; omega
  have hlen:=R.len
  simp at hlen
  have hX:=X.size
  refine App.row (R.pushed _) (by simp; omega) rfl rfl (by simp [Value.oneCell']) (by omega) (by simp only [maxLen]; omega) fun s' h2 R' _ hs ho _=>?_
  rw [wrapI64 (by omega) (by omega),wrapU64 (by omega) (by omega)]
  refine ⟨_,rfl,_,rfl,⟨l ++ [n % 256],by simpa using R',?_,by simp only; omega,by simp only; omega,by simp only; omega,by simp only; omega,X.trans ⟨by simp at hs; omega,fun j hj=>?_⟩⟩,?_⟩
  ·simp only
   rw [show (w - i).toNat=(w - (i + 1)).toNat + 1 from by omega] at hL
   simpa [formL] using hL
  ·rw [ho j (by simp; omega) (fun e=>by have:=(R.bd e).1; omega),Array.getElem?_push,if_neg (by omega)]
  ·show (w - (i + 1)).toNat < (w - i).toNat
   omega
 ·rw [if_neg (by simpa using hi)]
  have:(w - i).toNat=0:=by omega
  rw [this] at hL
  simp [formL] at hL
  subst hL
  exact H _ _ R X
theorem RShort_ok {n:Int} {k:Slc->Heap->Prop} {h:Heap} (n0:0<=n) (n1:n < 18446744073709551616) (H:∀ s' h',Row h.size h' 5 1 s' (b8 (shortL n))->Ext h.size h h'->k s' h'):ref01_Short n k h:=by
 unfold ref01_Short
 refine ⟨fun q h'=>∃ (cur:List Int) (f:Nat),Row h.size h' 5 1 q.2 (b8 cur)/\cur ++ shortF f q.1=shortL n/\0<=q.1/\q.1 < 128 ^ f/\1<=f/\f<=10/\cur.length + f<=10/\Ext h.size h h',fun q _=>q.1.toNat,⟨[],10,Row.nil _ _ _ _,rfl,n0,by simp only; omega,by omega,by omega,by simp,Ext.refl _ _⟩,?_⟩
 rintro m s h2 ⟨cur,f,R,hc,m0,m1,f1,f10,lc,X⟩
 dsimp only at R hc m0 m1
 have z:=X.size
 obtain ⟨f,rfl⟩:∃ g,f=g + 1:=⟨f - 1,by omega⟩
 unfold ref01_Short_l1b
 have e1:m.tmod 128=m % 128:=by rw [Int.tmod_eq_emod_of_nonneg m0]
 have e2:m.tdiv 128=m / 128:=by rw [Int.tdiv_eq_ediv_of_nonneg m0]
 have m64:m < 1180591620717411303424:=by
  have:(128:Int) ^ (f + 1)<=128 ^ 10:=by
   have h1:(128:Nat) ^ (f + 1)<=128 ^ 10:=Nat.pow_le_pow_right (by omega) f10
   exact_mod_cast h1
  have h2:(128:Int) ^ 10=1180591620717411303424:=by decide
  omega
 by_cases hm:m>=128
 ·rw [if_pos (by simpa using hm),e1,e2,wrapU8 (x:=m % 128) (by omega) (by omega),wrapU8 (by omega) (by omega)]
  refine ⟨_,_,rfl,rfl,?_⟩
  have hf:1<=f:=by
   rcases Nat.eq_zero_or_pos f with h0 | h0
   ·subst h0; simp at m1; omega
   ·exact h0
  refine AppB (m:=[m % 128 + 128]) (R.pushed _) (by simp; omega) rfl (by simp; omega) fun s' h3 R3 X3=>?_
  have hlt:m / 128 < 128 ^ f:=Int.ediv_lt_of_lt_mul (by omega) (by rw [Int.pow_succ] at m1; exact m1)
  have hw:IntKind.u64.wrap (m / 128)=m / 128:=wrapU64 (by omega) (by
   have:m / 128 < 18446744073709551616:=by omega
   exact this)
  rw [hw]
  refine ⟨_,rfl,⟨_,f,R3,?_,by dsimp only; omega,hlt,hf,by omega,by simp; omega,X.trans ((Ext.push h2 _ z).trans X3)⟩,by dsimp only; omega⟩
  dsimp only
  rw [← hc,shortF,if_neg (by omega)]
  simp
 ·rw [if_neg (by simpa using hm),wU8,show m % 256=m from by omega]
  refine ⟨_,_,rfl,rfl,?_⟩
  refine AppB (m:=[m]) (R.pushed _) (by simp; omega) rfl (by simp; omega) fun s' h3 R3 X3=>?_
  refine H s' h3 ?_ (X.trans ((Ext.push h2 _ z).trans X3))
  rw [← hc,shortF,if_pos (by omega)]
  exact R3
/-- bytes that grow, over a ground g that stays -/
structure Ac (g h:Heap) (s:Slc) (l:List Int):Prop where
 X:Ext g.size g h
 R:Row g.size h 5 1 s (b8 l)
abbrev Nxt (g:Heap) (l out:List Int) (c:Nat) (k:Slc->Heap->Prop):Prop:=∀ s' h' l',l'=l ++ out->l'.length<=l.length + c->Ac g h' s' l'->k s' h'
section
variable {g h:Heap} {s:Slc} {l:List Int} {k:Slc->Heap->Prop}
theorem Ac.app (M:Ac g h s l) {v:List Int} {n c:Nat} (hn:n=v.length) (hc:v.length<=c) (hl:l.length + v.length<=70368744177664) (H:Nxt g l v c k):App 5 1 1 [.int .u8 0] h s n (b8 v) k :=
 AppB M.R M.X.size hn hl fun s' h' R' X'=>H s' h' _ rfl (by rw [List.length_append]; omega) ⟨M.X.trans X',R'⟩
theorem Ac.ext {h':Heap} (M:Ac g h s l) (X:Ext h.size h h'):Ac g h' s l:=⟨M.X.trans (X.mono M.X.size),M.R.ext X fun g hg=>(M.R.bd hg).2⟩
theorem Ac.bytes (M:Ac g h s l) {t:Slc} {v:List Int} {c:Nat} (ht:SlcAt h t (b8 v)) (hn:t.len=v.length) (hc:v.length<=c) (hl:l.length + v.length<=70368744177664) (H:Nxt g l v c k):∃ w,SlcAt h t w/\App 5 1 1 [.int .u8 0] h s t.len w k :=
 ⟨_,ht,M.app hn hc hl H⟩
theorem Ac.row (M:Ac g h s l) {t:Slc} {v:List Int} {h1:Heap} {c:Nat} (hR:Row h.size h1 5 1 t (b8 v)) (hX:Ext h.size h h1) (hc:v.length<=c) (hl:l.length + v.length<=70368744177664) (H:Nxt g l v c k):∃ w,SlcAt h1 t w/\App 5 1 1 [.int .u8 0] h1 s t.len w k :=
 (M.ext hX).bytes hR.slc (Row.pb hR) hc hl H
theorem Ac.short (M:Ac g h s l) {n:Int} (n0:0<=n) (n1:n < 18446744073709551616) (hl:l.length<=4398046511104) (H:Nxt g l (shortL n) 10 k):ref01_Short n (fun r h'=>∃ w,SlcAt h' r w/\App 5 1 1 [.int .u8 0] h' s r.len w k) h :=
 RShort_ok n0 n1 fun r h1 R1 X1=>M.row R1 X1 (shortL_len n) (by have:=shortL_len n; omega) H
theorem Ac.form (M:Ac g h s l) {n w:Int} (w0:0<=w) (w1:w<=8) (n0:0<=n) (n1:n < 18446744073709551616) (hl:l.length<=4398046511104) (H:Nxt g l (formL n w.toNat) 8 k):ref01_Form n w (fun r h'=>∃ w,SlcAt h' r w/\App 5 1 1 [.int .u8 0] h' s r.len w k) h :=
 DFm_ok w0 w1 n0 n1 fun r h1 R1 X1=>M.row R1 X1 (by rw [formL_length]; omega) (by rw [formL_length]; omega) H
theorem Ac.one (M:Ac g h s l) {v:Int} (hl:l.length<=4398046511104) (H:Nxt g l [v] 1 k):∃ (b:Nat) (h':Heap),b=h.size/\h'=h.push (.cells ([.int .u8 v]:List Value).toArray 5)/\App 5 1 1 [.int .u8 0] h' s 1 ([.int .u8 v]) k :=
 ⟨_,_,rfl,rfl,(M.ext (Ext.push _ _ (Nat.le_refl _))).app (v:=[v]) rfl (by simp) (by simp; omega) H⟩
end
section
variable {g h:Heap}
theorem len0 {n:Nat} (h:n<=1000000):(IntKind.u64.wrap (n:Int))=n:=wrapU64 (by omega) (by omega)
theorem DText_ok {s:Slc} {t:List Int} {k:Slc->Heap->Prop} (S:SlcAt h s (b8 t)) (l:s.len=t.length) (b:t.length<=1000000) (H:Lays' h (tx t) k):ref28_text s k h:=by
 unfold ref28_text
 rw [len0 (by omega)]
 refine RShort_ok (by omega) (by omega) fun r h1 R1 X1=>?_
 have sl:=shortL_len (s.len:Int)
 exact (⟨X1,R1⟩:Ac h h1 r _).bytes (v:=t) (c:=t.length) (S.ext X1) l (Nat.le_refl _) (by omega) fun s' h' l' e _ M=>by
  subst e
  exact H s' h' (by unfold tx; rw [← l]; exact M.R) M.X
/-- a text behind what there is -/
theorem Ac.text {s t:Slc} {l v:List Int} {k:Slc->Heap->Prop} (M:Ac g h s l) (S:SlcAt h t (b8 v)) (tl:t.len=v.length) (b:v.length<=1000000) (hl:l.length<=4398046511104) (H:Nxt g l (tx v) (v.length + 10) k):ref28_text t (fun r h'=>∃ w,SlcAt h' r w/\App 5 1 1 [.int .u8 0] h' s r.len w k) h :=
 DText_ok S tl b fun r h1 R1 X1=>by
  have e:(tx v).length<=v.length + 10:=by unfold tx; rw [List.length_append]; have:=shortL_len (v.length:Int); omega
  exact M.row R1 X1 e (by omega) H
theorem DEnts_ok {s:Slc} {vs:List S_api_Entry} {es:List Ent} {k:Slc->Heap->Prop} (L:LsAt S_api_Entry.cs 2 h s vs) (M:Many (EntAt h) vs es) (wl:es.length<=1000000) (we:∀ e∈es,u64 e.1/\isB e.2/\e.2.length<=1000000) (H:Lays' h ((manyC entC).put es) k):ref28_entries s k h:=by
 have sl:=L.l
 have ml:=M.l
 unfold ref28_entries
 rw [len0 (by omega)]
 refine RShort_ok (by omega) (by omega) fun r h1 R1 X1=>?_
 have s10:=shortL_len (s.len:Int)
 refine ⟨fun q h'=>0<=q.2/\q.2<=es.length/\Ac h h' q.1 (shortL s.len ++ (es.take q.2.toNat).flatMap entC.put),fun q _=>(es.length - q.2).toNat,⟨by dsimp only; omega,by dsimp only; omega,⟨X1,by simpa using R1⟩⟩,?_⟩
 rintro out i h2 ⟨i0,i1,A⟩
 dsimp only at i0 i1 A
 have la:(shortL s.len ++ (es.take i.toNat).flatMap entC.put).length<=1000021000000:=by
  rw [List.length_append]
  have:=fm_le_take (fun e he=>ent_len (we e he).2.2) i.toNat (xs:=es) (f:=entC.put)
  have:=Nat.mul_le_mul_right 1000020 wl
  omega
 unfold ref28_entries_l1b
 by_cases c:i < es.length
 ·rw [if_pos (by rw [decide_eq_true_eq]; omega)]
  obtain ⟨a,u,ha,_,hlt,hu,hc⟩:=(L.ext A.X).it i0 (by omega)
  obtain ⟨e,he⟩:∃ e,es[i.toNat]? = some e:=⟨_,List.getElem?_eq_getElem (by omega)⟩
  have E:=(M.r _ _ _ hu he).ext A.X
  have w:=we e (List.mem_of_getElem? he)
  refine ⟨a,ha,i0,hlt,u.f_Term,cls0 hc rfl,A.short (by rw [E.t]; exact w.1.1) (by rw [E.t]; exact w.1.2) (by omega) fun s3 h3 l3 e3 n3 A3=>?_⟩
  obtain ⟨a',u',ha',_,_,hu',hc'⟩:=(L.ext A3.X).it i0 (by omega)
  rw [hu] at hu'; cases hu'
  have E3:=(M.r _ _ _ hu he).ext A3.X
  refine ⟨a',ha',i0,hlt,u.f_Cmd,zcls hc' rfl,A3.text E3.s E3.l w.2.2 (by omega) fun s4 h4 l4 e4 n4 A4=>?_⟩
  rw [wrapI64 (x:=i + 1) (by omega) (by omega)]
  refine ⟨_,rfl,⟨by dsimp only; omega,by dsimp only; omega,?_⟩,by dsimp only; omega⟩
  dsimp only
  rw [show (i + 1).toNat=i.toNat + 1 from by omega,List.take_add_one,he,List.flatMap_append]
  subst e4; subst e3
  rw [E.t] at A4
  simpa [entC,PC.bind,shortC,txC] using A4
 ·rw [if_neg (by rw [decide_eq_true_eq]; omega)]
  rw [show i.toNat=es.length from by omega,List.take_length] at A
  exact H out h2 (by show Row _ _ _ _ _ (b8 (shortL _ ++ _)); rw [← ml,← sl]; exact A.R) A.X
theorem DName_ok {s:ByteArray} {k:Bool->Heap->Prop} (b:s.size<=1000000) (H:k (nameB (sB s)) h):ref16_Name s k h:=by
 have e:∀ j:Nat,∀ hj:j < s.size,(sB s)[j]? = some (((s[j]'hj).toNat:Nat):Int):=fun j hj=>by
  have:(sB s)[j]? = (s.data[j]?).map fun x:UInt8=>((x.toNat:Nat):Int):=by unfold sB; simp
  rw [this]
  have:s.data[j]? = some (s[j]'hj):=by rw [Array.getElem?_eq_getElem (show j < s.data.size from hj)]; rfl
  rw [this]; rfl
 have sl:=sB_len s
 unfold ref16_Name
 refine ⟨fun i h'=>0<=i/\i<=s.size/\h'=h/\∀ j:Nat,(j:Int) < i->∀ x,(sB s)[j]? = some x->((decide (97<=x) && decide (x<=122)) || (decide (48<=x) && decide (x<=57)) || x == 45)=true,fun i _=>(s.size - i).toNat,⟨by omega,by omega,rfl,fun j hj=>by omega⟩,?_⟩
 rintro i h' ⟨i0,i1,rfl,hd⟩
 unfold ref16_Name_l1b
 by_cases c:i < s.size
 ·rw [if_pos (by rw [decide_eq_true_eq]; exact c)]
  have hx:=e i.toNat (by omega)
  refine ⟨((s[i.toNat]'(by omega)).toNat:Int),i0,⟨by omega,rfl⟩,?_⟩
  generalize ((s[i.toNat]'(by omega)).toNat:Int)=x at hx ⊢
  by_cases q:((decide (97<=x) && decide (x<=122)) || (decide (48<=x) && decide (x<=57)) || x == 45)=true
  ·rw [if_neg (by simp at q ⊢; omega),wrapI64 (x:=i + 1) (by omega) (by omega)]
   refine ⟨_,rfl,⟨by omega,by omega,rfl,fun j hj y hy=>?_⟩,by dsimp only; omega⟩
   by_cases f:j=i.toNat
   ·subst f; rw [hx] at hy; cases hy; exact q
   ·exact hd j (by omega) y hy
  ·rw [if_pos (by simp at q ⊢; omega)]
   have:nameB (sB s)=false:=by
    unfold nameB
    rw [Bool.and_eq_false_iff]
    left
    rw [List.all_eq_false]
    exact ⟨x,List.mem_of_getElem? hx,by simpa using q⟩
   rw [this] at H; exact H
 ·rw [if_neg (by rw [decide_eq_true_eq]; exact c)]
  have al:((sB s).all fun c=>(decide (97<=c) && decide (c<=122)) || (decide (48<=c) && decide (c<=57)) || c == 45)=true:=by
   rw [List.all_eq_true]
   intro x hx
   obtain ⟨j,hj⟩:=List.getElem?_of_mem hx
   have:=(List.getElem?_eq_some_iff.1 hj).1
   exact hd j (by omega) x hj
  have:nameB (sB s)=(decide ((s.size:Int)>=1) && decide ((s.size:Int)<=24)):=by
   unfold nameB
   rw [al,Bool.true_and,sl]
   congr 1 <;> · apply decide_eq_decide.2; omega
  rw [this] at H; exact H
theorem DChk_ok {v:S_api_Box} {b:BoxV} {k:Bool->Heap->Prop} (Bx:BoxAt h v b) (w:WfB b) (H:∀ h',Ext h.size h h'->k (boxOk b) h'):ref16_Check v k h:=by
 have tl:v.f_Tenant.size<=1000000:=by have:=congrArg List.length Bx.t; rw [sB_len] at this; have:=w.tl; omega
 have bl:=Bx.l
 unfold ref16_Check
 refine bx0 fun h2 P2 X2=>⟨v.f_Tenant,P2.cl0 rfl,DName_ok tl ?_⟩
 have H:=H h2 X2
 have eb:boxOk b=(nameB (sB v.f_Tenant) && (decide (16<=b.2.2.2.length) && decide (b.2.2.2.length<=4112))):=by unfold boxOk; rw [Bx.t]
 cases hn:nameB (sB v.f_Tenant) with
 | false =>
  rw [if_neg (by simp)]
  unfold ref16_Check_g1 ref16_Check_g2
  rw [if_neg (by simp)]
  rw [hn,Bool.false_and] at eb
  rw [eb] at H; exact H
 | true =>
  rw [if_pos rfl]
  rw [hn,Bool.true_and] at eb
  refine ⟨v.f_Body,P2.cl rfl,?_⟩
  unfold ref16_Check_g1 ref16_Check_g2
  by_cases q:(v.f_Body.len:Int)>=16
  ·rw [if_pos (by rw [decide_eq_true_eq]; exact q)]
   refine ⟨v.f_Body,P2.cl rfl,?_⟩
   have:boxOk b=decide ((v.f_Body.len:Int)<=4112):=by
    rw [eb,show decide (16<=b.2.2.2.length)=true from by rw [decide_eq_true_eq]; omega,Bool.true_and]
    apply decide_eq_decide.2; omega
   rw [this] at H; exact H
  ·rw [if_neg (by rw [decide_eq_true_eq]; exact q)]
   have:boxOk b=false:=by
    rw [eb,show decide (16<=b.2.2.2.length)=false from by rw [decide_eq_false_iff_not]; omega,Bool.false_and]
   rw [this] at H; exact H
theorem DBox_ok {v:S_api_Box} {b:BoxV} {k:Slc->Heap->Prop} (Bx:BoxAt h v b) (w:WfB b) (H:Lays' h (rawC.put b) k):ref16_Form v k h:=by
 have tl:v.f_Tenant.size=b.1.length:=by have:=congrArg List.length Bx.t; rwa [sB_len] at this
 have wl:=w.tl
 have wb:=w.bl
 have bl:=Bx.l
 unfold ref16_Form
 refine bx0 fun h2 P2 X2=>⟨v.f_Tenant,P2.cl0 rfl,v.f_Tenant,P2.cl0 rfl,?_⟩
 rw [len0 (by omega)]
 refine RShort_ok (by omega) (by omega) fun r1 h3 R3 X3=>⟨(P2.ext X3 P2.lt).cl0 rfl,?_⟩
 have z2:=X2.size
 have s1:=shortL_len (v.f_Tenant.size:Int)
 have M3:Ac h2 h3 r1 (shortL v.f_Tenant.size):=⟨X3,R3⟩
 rw [show b8 (sB v.f_Tenant)=b8 b.1 from by rw [Bx.t]]
 refine M3.app (v:=b.1) (c:=1000000) tl (by omega) (by omega) fun s4 h4 l4 e4 n4 M4=>?_
 have e0:=w.e
 refine ⟨v.f_Epoch,(P2.ext M4.X P2.lt).cl rfl,?_⟩
 rw [Bx.e,wrapU64 (x:=b.2.1) (by omega) (by omega)]
 refine M4.form (by omega) (by omega) e0.1 (by omega) (by omega) fun s5 h5 l5 e5 n5 M5=>?_
 have S16:=Blk.arrS (P2.ext M5.X P2.lt) (i:=2) (n:=12) (y:=v.f_Nonce) rfl (by rw [Bx.n]; exact w.nl)
 rw [Bx.n] at S16
 refine ⟨_,by omega,by omega,by omega,rfl,?_⟩
 rw [show subS ⟨some ((⟨h.size,0,none⟩:Addr).add 2),12,12⟩ 1 (0:Int).toNat (12:Int).toNat 12=⟨some ((⟨h.size,0,none⟩:Addr).add 2),12,12⟩ from subF]
 refine M5.bytes (v:=b.2.2.1) (c:=12) S16 (by show 12=_; rw [w.nl]) (by rw [w.nl]; exact Nat.le_refl _) (by rw [w.nl]; omega) fun s6 h6 l6 e6 n6 M6=>?_
 refine ⟨v.f_Body,(P2.ext M6.X P2.lt).cl rfl,?_⟩
 rw [len0 (by omega)]
 refine M6.short (by omega) (by omega) (by omega) fun s7 h7 l7 e7 n7 M7=>?_
 refine ⟨v.f_Body,(P2.ext M7.X P2.lt).cl rfl,M7.bytes (v:=b.2.2.2) (c:=1000000) (Bx.s.ext (X2.trans (M7.X.mono z2))) bl (by omega) (by omega) fun s8 h8 l8 e8 n8 M8=>?_⟩
 refine H s8 h8 ?_ (X2.trans (M8.X.mono z2))
 have e:rawC.put b=l8:=by
  subst e8; subst e7; subst e6; subst e5; subst e4
  rw [tl,bl]
  simp [rawC,PC.bind,txC,tx,fixC,bytesC]
 rw [e]
 exact M8.R.mono z2
theorem DBoxes_ok {s:Slc} {vs:List S_api_Box} {bs:List BoxV} {k:Slc->Heap->Prop} (L:LsAt S_api_Box.cs 15 h s vs) (M:Many (BoxAt h) vs bs) (wl:bs.length<=1000000) (we:∀ b∈bs,WfB b) (H:Lays' h ((manyC boxC).put bs) k):ref28_boxes s k h:=by
 have sl:=L.l
 have ml:=M.l
 unfold ref28_boxes
 rw [len0 (by omega)]
 refine RShort_ok (by omega) (by omega) fun r h1 R1 X1=>?_
 have s10:=shortL_len (s.len:Int)
 refine ⟨fun q h'=>0<=q.2/\q.2<=bs.length/\Ac h h' q.1 (shortL s.len ++ (bs.take q.2.toNat).flatMap boxC.put),fun q _=>(bs.length - q.2).toNat,⟨by dsimp only; omega,by dsimp only; omega,⟨X1,by simpa using R1⟩⟩,?_⟩
 rintro out i h2 ⟨i0,i1,A⟩
 dsimp only at i0 i1 A
 have la:(shortL s.len ++ (bs.take i.toNat).flatMap boxC.put).length<=2000037000000:=by
  rw [List.length_append]
  have:=fm_le_take (fun b hb=>box_len (we b hb)) i.toNat (xs:=bs) (f:=boxC.put)
  have:=Nat.mul_le_mul_right 2000036 wl
  omega
 unfold ref28_boxes_l1b
 by_cases c:i < bs.length
 ·rw [if_pos (by rw [decide_eq_true_eq]; omega)]
  obtain ⟨a,u,ha,_,hlt,hu,hc⟩:=(L.ext A.X).it i0 (by omega)
  obtain ⟨e,he⟩:∃ e,bs[i.toNat]? = some e:=⟨_,List.getElem?_eq_getElem (by omega)⟩
  have E:=(M.r _ _ _ hu he).ext A.X
  have w:=we e (List.mem_of_getElem? he)
  have bl:=box_len w
  have nx:∀ {s':Slc} {h':Heap},Ac h h' s' ((shortL s.len ++ (bs.take i.toNat).flatMap boxC.put) ++ boxC.put e)->ref28_boxes_j2 s i s' k (fun s h'=>(0<=s.2/\s.2<=bs.length/\Ac h h' s.1 (shortL _ ++ (bs.take s.2.toNat).flatMap boxC.put))/\(bs.length - s.2).toNat < ((bs.length:Int) - i).toNat) h':=fun {s' h'} Q=>by
   unfold ref28_boxes_j2
   rw [wrapI64 (x:=i + 1) (by omega) (by omega)]
   refine ⟨_,rfl,⟨by dsimp only; omega,by dsimp only; omega,?_⟩,by dsimp only; omega⟩
   dsimp only
   rw [show (i + 1).toNat=i.toNat + 1 from by omega,List.take_add_one,he,List.flatMap_append]
   simpa using Q
  refine ⟨a,ha,i0,hlt,u,hc,DChk_ok E w fun h3 X3=>?_⟩
  have A3:=A.ext X3
  by_cases ok:boxOk e=true
  ·rw [if_pos ok]
   obtain ⟨a',u',ha',_,_,hu',hc'⟩:=(L.ext A3.X).it i0 (by omega)
   rw [hu] at hu'; cases hu'
   have pe:boxC.put e=rawC.put e:=by show (if boxOk e then rawC.put e else [])=_; rw [if_pos ok]
   rw [pe] at bl nx
   refine ⟨a',ha',i0,hlt,u,hc',DBox_ok ((M.r _ _ _ hu he).ext A3.X) w fun r4 h4 R4 X4=>A3.row R4 X4 bl (by omega) fun s5 h5 l5 e5 n5 A5=>?_⟩
   subst e5
   exact nx A5
  ·rw [if_neg ok]
   have pe:boxC.put e=[]:=by show (if boxOk e then rawC.put e else [])=_; rw [if_neg ok]
   rw [pe] at nx
   exact nx (by simpa using A3)
 ·rw [if_neg (by rw [decide_eq_true_eq]; omega)]
  rw [show i.toNat=bs.length from by omega,List.take_length] at A
  exact H out h2 (by show Row _ _ _ _ _ (b8 (shortL _ ++ _)); rw [← ml,← sl]; exact A.R) A.X
/-- some numbers -/
theorem DShorts_ok {b:Nat} {ns:List Int} {n:Nat} {k:Slc->Heap->Prop} (P:Blk h b (ns.map (Value.int .u64)) 22) (nl:ns.length=n) (n1:n<=100) (hn:∀ x∈ns,u64 x) (H:Lays' h (ns.flatMap shortL) k):ref28_shorts ⟨some ⟨b,0,none⟩,n,n⟩ k h:=by
 unfold ref28_shorts
 refine ⟨fun q h'=>0<=q.2/\q.2<=ns.length/\Ac h h' q.1 ((ns.take q.2.toNat).flatMap shortL),fun q _=>(ns.length - q.2).toNat,⟨by dsimp only; omega,by dsimp only; omega,⟨Ext.refl _ _,by simpa using Row.nil _ _ _ _⟩⟩,?_⟩
 rintro out i h2 ⟨i0,i1,A⟩
 dsimp only at i0 i1 A
 have la:((ns.take i.toNat).flatMap shortL).length<=1000:=by
  have:=fm_le_take (fun x _=>shortL_len x) i.toNat (xs:=ns) (f:=shortL)
  have:=Nat.mul_le_mul_right 10 (show ns.length<=100 by omega)
  omega
 unfold ref28_shorts_l1b
 by_cases c:i < ns.length
 ·rw [if_pos (by rw [decide_eq_true_eq]; show i < (n:Int); omega)]
  obtain ⟨x,hx⟩:∃ x,ns[i.toNat]? = some x:=⟨_,List.getElem?_eq_getElem (by omega)⟩
  have w:=hn x (List.mem_of_getElem? hx)
  refine ⟨_,rfl,i0,by show i < (n:Int); omega,x,?_,A.short w.1 w.2 (by omega) fun s3 h3 l3 e3 n3 A3=>?_⟩
  ·exact (P.ext A.X P.lt).cl (by rw [Nat.mul_one,List.getElem?_map,hx]; rfl)
  ·rw [wrapI64 (x:=i + 1) (by omega) (by omega)]
   refine ⟨_,rfl,⟨by dsimp only; omega,by dsimp only; omega,?_⟩,by dsimp only; omega⟩
   dsimp only
   rw [show (i + 1).toNat=i.toNat + 1 from by omega,List.take_add_one,hx,List.flatMap_append]
   subst e3
   simpa using A3
 ·rw [if_neg (by rw [decide_eq_true_eq]; show ¬ i < (n:Int); omega)]
  rw [show i.toNat=ns.length from by omega,List.take_length] at A
  exact H out h2 A.R A.X
end
end Go.Q.Yk
end
section
set_option maxRecDepth 100000
/- Strong, the document's: the form of what is kept. -/
namespace Go.Q.Yk
open Go.Q.Sg
theorem wr64 (n:Int):IntKind.u64.wrap n=n % 18446744073709551616:=by
 unfold IntKind.wrap
 simp only [IntKind.signed,IntKind.bits,Bool.false_eq_true,if_false]
 rfl
theorem cls_part {h:Heap} {a:Addr} {vs ys:List Value} {i:Nat} (c:CellsAt h a vs) (hd:(vs.drop i).take ys.length=ys):CellsAt h (a.add i) ys:=fun j v hj=>by
 rw [Go.Q.Rw.add_add2]
 refine c (i + j) v ?_
 have hl:=(List.getElem?_eq_some_iff.1 hj).1
 rw [← hd,List.getElem?_take,if_pos hl,List.getElem?_drop] at hj
 exact hj
theorem slc_of_cls {h:Heap} {a:Addr} {n:Nat} {y:List Int} (c:CellsAt h a (arr n .u8 y)) (hy:y.length=n):SlcAt h ⟨some a,n,n⟩ (b8 y):=by
 rw [show arr n .u8 y=b8 y from arr_full hy] at c
 exact ⟨(fun q=>by cases q),fun a' ha j x hj=>by cases ha; exact c j x hj⟩
section
variable {h:Heap} {v:S_api_Mem} {m:MemV}
theorem DForm_ok {k:Slc->Heap->Prop} (M:MemAt h v m) (w:WfM m) (H:Lays' h (memC.put m.tup) k):ref28_Form v k h:=by
 unfold ref28_Form
 refine bx0 fun h2 P2 X2=>⟨v.f_Node,P2.cl0 rfl,v.f_N,P2.cl rfl,v.f_T,P2.cl rfl,v.f_Boot,P2.cl rfl,v.f_Lease,P2.cl rfl,?_⟩
 have z2:=X2.size
 have M2:=M.ext X2
 rw [wr64,wr64,wr64,M.node,M.n,M.t,M.boot,M.lease]
 refine bx0 fun h3 P3 X3=>?_
 have z3:=X3.size
 have md:∀ x:Int,u64 (x % 18446744073709551616):=fun x=>u64_mod x
 refine DShorts_ok (ns:=[m.node % 18446744073709551616,m.n % 18446744073709551616,m.t % 18446744073709551616,m.boot,m.lease]) P3 rfl (by omega) (fun x hx=>by
  simp only [List.mem_cons,List.not_mem_nil,or_false] at hx
  rcases hx with rfl | rfl | rfl | rfl | rfl
  ·exact md _
  ·exact md _
  ·exact md _
  ·exact w.boot
  ·exact w.lease) fun r4 h4 R4 X4=>?_
 have A4:Ac h2 h4 r4 _:=⟨X3.trans (X4.mono z3),R4.mono z3⟩
 have l4:(([m.node % 18446744073709551616,m.n % 18446744073709551616,m.t % 18446744073709551616,m.boot,m.lease]:List Int).flatMap shortL).length<=50:=fm_le (fun x _=>shortL_len x)
 have PX:∀ {h':Heap} {s:Slc} {l:List Int},Ac h2 h' s l->Blk h' h.size (S_api_Mem.cs v) 33:=fun A=>P2.ext A.X P2.lt
 have MX:∀ {h':Heap} {s:Slc} {l:List Int},Ac h2 h' s l->MemAt h' v m:=fun A=>M2.ext A.X
 refine ⟨v.f_Share.f_X,(PX A4).cl rfl,A4.one (by omega) fun s5 h5 l5 e5 n5 A5=>?_⟩
 rw [add2]
 have S6:=Blk.arrS (PX A5) (i:=6) (n:=32) (y:=v.f_Share.f_Y) rfl (by rw [M.y]; exact w.yl)
 refine ⟨_,by omega,by omega,by omega,rfl,?_⟩
 rw [show subS ⟨some ((⟨h.size,0,none⟩:Addr).add (5 + 1)),32,32⟩ 1 (0:Int).toNat (32:Int).toNat 32=⟨some ((⟨h.size,0,none⟩:Addr).add (5 + 1)),32,32⟩ from subF]
 rw [M.y] at S6
 refine A5.bytes (v:=m.y) (c:=32) S6 (by show 32=_; rw [w.yl]) (by rw [w.yl]; exact Nat.le_refl _) (by rw [w.yl]; omega) fun s6 h6 l6 e6 n6 A6=>?_
 have S7:=Blk.arrS (PX A6) (i:=38) (n:=32) (y:=v.f_Proof) rfl (by rw [M.p]; exact w.pl)
 refine ⟨_,by omega,by omega,by omega,rfl,?_⟩
 rw [show subS ⟨some ((⟨h.size,0,none⟩:Addr).add 38),32,32⟩ 1 (0:Int).toNat (32:Int).toNat 32=⟨some ((⟨h.size,0,none⟩:Addr).add 38),32,32⟩ from subF]
 rw [M.p] at S7
 refine A6.bytes (v:=m.p) (c:=32) S7 (by show 32=_; rw [w.pl]) (by rw [w.pl]; exact Nat.le_refl _) (by rw [w.pl]; omega) fun s7 h7 l7 e7 n7 A7=>?_
 refine ⟨v.f_Term,(PX A7).cl rfl,v.f_Vote,(PX A7).cl rfl,v.f_Base,(PX A7).cl rfl,v.f_BaseTerm,(PX A7).cl rfl,?_⟩
 rw [wr64,M.term,M.vote,M.base,M.bterm]
 refine bx0 fun h8 P8 X8=>?_
 have l8:(([m.term,m.vote % 18446744073709551616,m.base,m.bterm]:List Int).flatMap shortL).length<=40:=fm_le (fun x _=>shortL_len x)
 refine DShorts_ok (ns:=[m.term,m.vote % 18446744073709551616,m.base,m.bterm]) P8 rfl (by omega) (fun x hx=>by
  simp only [List.mem_cons,List.not_mem_nil,or_false] at hx
  rcases hx with rfl | rfl | rfl | rfl
  ·exact w.term
  ·exact md _
  ·exact w.base
  ·exact w.bterm) fun r9 h9 R9 X9=>(A7.ext X8).row R9 X9 l8 (by omega) fun s10 h10 l10 e10 n10 A10=>?_
 have sl:=w.snapl
 refine ⟨v.f_Snap,(PX A10).cl rfl,A10.text (MX A10).snap (MX A10).snapl sl (by omega) fun s11 h11 l11 e11 n11 A11=>?_⟩
 obtain ⟨es,E1,E2⟩:=(MX A11).ents
 have el:((manyC entC).put m.ents).length<=1000021000000:=by
  show (shortL _ ++ _).length<=_
  rw [List.length_append]
  have:=fm_le (fun e he=>ent_len (w.ents e he).2.2) (xs:=m.ents) (f:=entC.put)
  have:=Nat.mul_le_mul_right 1000020 w.entsl
  have:=shortL_len (m.ents.length:Int)
  omega
 refine ⟨v.f_Entries,(PX A11).cl rfl,DEnts_ok E1 E2 w.entsl w.ents fun r12 h12 R12 X12=>A11.row R12 X12 el (by omega) fun s13 h13 l13 e13 n13 A13=>?_⟩
 have l13b:l13.length<=1000022001000:=by omega
 unfold ref28_Form_l1
 have cl:=w.chainsl
 refine ⟨fun q h'=>0<=q.2/\q.2<=m.chains.length/\Ac h2 h' q.1 (l13 ++ (m.chains.take q.2.toNat).flatMap chC.put),fun q _=>(m.chains.length - q.2).toNat,⟨by dsimp only; omega,by dsimp only; omega,by simpa using A13⟩,?_⟩
 rintro out i h14 ⟨i0,i1,A⟩
 dsimp only at i0 i1 A
 have la:(l13 ++ (m.chains.take i.toNat).flatMap chC.put).length<=1000064001000:=by
  rw [List.length_append]
  have:=fm_le_take (fun c hc=>ch_len (w.chains c hc).2.2) i.toNat (xs:=m.chains) (f:=chC.put)
  have:=Nat.mul_le_mul_right 42 cl
  omega
 obtain ⟨cs,C0,C2⟩:=M2.chains
 have C1:=C0.ext A.X
 have ccl:=C1.l
 have cml:=C2.l
 unfold ref28_Form_l1b
 refine ⟨v.f_Chains,(PX A).cl rfl,?_⟩
 by_cases c:i < m.chains.length
 ·rw [if_pos (by rw [decide_eq_true_eq]; omega)]
  obtain ⟨a,u,ha,_,hlt,hu,hc⟩:=C1.it i0 (by omega)
  obtain ⟨e,he⟩:∃ e,m.chains[i.toNat]? = some e:=⟨_,List.getElem?_eq_getElem (by omega)⟩
  have E:=C2.r _ _ _ hu he
  have we:=w.chains e (List.mem_of_getElem? he)
  refine ⟨v.f_Chains,(PX A).cl rfl,a,ha,i0,hlt,u.f_Index,cls0 hc rfl,A.short (by rw [E.i]; exact we.1.1) (by rw [E.i]; exact we.1.2) (by omega) fun s15 h15 l15 e15 n15 A15=>?_⟩
  have hc15:CellsAt h15 (a.add (i.toNat * 33)) (S_api_Chain.cs u):=by
   obtain ⟨a',u',ha',_,_,hu',hc'⟩:=(C0.ext A15.X).it i0 (by omega)
   rw [hu] at hu'; cases hu'
   rw [ha] at ha'; cases ha'
   exact hc'
  have S15:=slc_of_cls (cls_part hc15 (i:=1) (ys:=arr 32 .u8 u.f_Key) rfl) (by rw [E.k]; exact we.2.2)
  rw [E.k] at S15
  refine ⟨v.f_Chains,(PX A15).cl rfl,a,ha,i0,hlt,_,by omega,by omega,by omega,rfl,?_⟩
  rw [show subS ⟨some ((a.add (i.toNat * 33)).add 1),32,32⟩ 1 (0:Int).toNat (32:Int).toNat 32=⟨some ((a.add (i.toNat * 33)).add 1),32,32⟩ from subF]
  refine A15.bytes (v:=e.2) (c:=32) S15 (by show 32=_; rw [we.2.2]) (by rw [we.2.2]; exact Nat.le_refl _) (by rw [we.2.2]; omega) fun s16 h16 l16 e16 n16 A16=>?_
  rw [wrapI64 (x:=i + 1) (by omega) (by omega)]
  refine ⟨_,rfl,⟨by dsimp only; omega,by dsimp only; omega,?_⟩,by dsimp only; omega⟩
  dsimp only
  rw [show (i + 1).toNat=i.toNat + 1 from by omega,List.take_add_one,he,List.flatMap_append]
  subst e16; subst e15
  rw [E.i] at A16
  simpa [chC,PC.bind,shortC,bytesC] using A16
 ·rw [if_neg (by rw [decide_eq_true_eq]; omega)]
  rw [show i.toNat=m.chains.length from by omega,List.take_length] at A la
  obtain ⟨bs,B1,B2⟩:=(MX A).boxes
  have bl:((manyC boxC).put m.boxes).length<=2000037000000:=by
   show (shortL _ ++ _).length<=_
   rw [List.length_append]
   have:=fm_le (fun b hb=>box_len (w.boxes b hb)) (xs:=m.boxes) (f:=boxC.put)
   have:=Nat.mul_le_mul_right 2000036 w.boxesl
   have:=shortL_len (m.boxes.length:Int)
   omega
  refine ⟨v.f_Boxes,(PX A).cl rfl,DBoxes_ok B1 B2 w.boxesl w.boxes fun r17 h17 R17 X17=>A.row R17 X17 bl (by omega) fun s18 h18 l18 e18 n18 A18=>?_⟩
  refine ⟨v.f_Clean,(PX A18).cl rfl,A18.short (by rw [M.clean]; exact w.clean.1) (by rw [M.clean]; exact w.clean.2) (by omega) fun s19 h19 l19 e19 n19 A19=>?_⟩
  refine H s19 h19 ?_ (X2.trans (A19.X.mono z2))
  have e:memC.put m.tup=l19:=by
   subst e19; subst e18; subst e13; subst e11; subst e10; subst e7; subst e6; subst e5
   rw [M.clean]
   have hx:=M.x
   simp [memC,PC.bind,shortC,cntC,bytesC,txC,listC,MemV.tup,← hx]
  rw [e]
  exact A19.R.mono z2
end
end Go.Q.Yk
end

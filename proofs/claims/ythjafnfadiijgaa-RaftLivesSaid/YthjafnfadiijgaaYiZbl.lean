/- A part of the proof of statements of this seat: lemmas, no statement of their own. -/
import Derived.Test.YthjafnfadiijgaaYiZbk
import Derived.Test.YthjafnfadiijgaaYiZaq
set_option linter.unusedVariables false
set_option linter.unusedSimpArgs false
set_option linter.unusedSectionVars false
set_option maxRecDepth 100000
section
/- RaftLives: its rounds. -/
namespace Go.Q.Yi
open Rf
section
variable [QC] {n:Int} {O:bz} {h h':Heap} {M:MLy} {R:Int->RS} {S:Int->SS} {Ls Ls0:List Let} {kn:List Ent} {ld:List Int} {i:Int} {B T B':Nat}
/-- a member ticks -/
theorem Mq {kk:KP Unit} (A:Sx n B T O h M R S Ls kn ld) (hi:In n i) (hB:B + 2<=8000000) (hT:T < 1000000000)
  (H:∀ O' h' M' S' kn' ld',Sx n (B + 2) (T + 1) O' h' M' ((PW.tick ⟨R,Ls⟩ i).R) S' ((PW.tick ⟨R,Ls⟩ i).q) kn' ld'->M'.w=M.w->kk () h'):jm (some ⟨(M.rs i).b,0,none⟩) (fun s h1=>bF (some ⟨M.w,0,none⟩) i s kk h1) h:=by
 have W:=A.W
 have Ri:=W.r i hi
 have k0:=A.k0 hi
 have rn:=A.rn hi
 have lk:=A.lok (by omega) hi
 have n1:=W.n1
 refine Bt Ri (by rw [k0]; simp) (by have:=A.tk i hi; omega) fun s h2 L2 q Mo _=>?_
 obtain ⟨_,_,_,tt,tb⟩:=RS.Ei (r:=R i)
 exact A.post (B':=B + 2) hi q Mo (by have:=Ck (r:=R i) (by omega); omega) (by omega) (by omega) (fun G g=>yz g.core hi.1 hi.2 (by omega)) (fun x hx=>by have:=EP x hx; rw [rn] at this; exact this) (A.sy hi).tick ((A.kp hi).tick lk) (EC Ri.wl q.R.wl) (tb (A.ak i hi)) (by have:=A.tk i hi; omega) fun O' h' M' S' kn' ld' A' e=>H O' h' M' S' kn' ld' A' e
/-- it proposes -/
theorem MW {kk:KP Unit} (A:Sx n B T O h M R S Ls kn ld) (hi:In n i) (hB:B + 2<=8000000) {p1:Slc} (hs:SlcAt h p1 (b8 dC)) (hl:p1.len=dC.length) {kf:KP (Int × Int)} (fin:∀ s h',kf s h'->True)
  (H:∀ O' h' M' S' kn' ld',Sx n (B + 1) (T + 1) O' h' M' ((PW.pF ⟨R,Ls⟩ i dC).R) S' ((PW.pF ⟨R,Ls⟩ i dC).q) kn' ld'->M'.w=M.w->kk () h')
  (K:∀ h1,bF (some ⟨M.w,0,none⟩) i ⟨none,0,0⟩ kk h1->kf ((R i).aI dC).2 h1):fH (some ⟨(M.rs i).b,0,none⟩) p1 kf h:=by
 have W:=A.W
 have Ri:=W.r i hi
 have k0:=A.k0 hi
 have lk:=A.lok (by omega) hi
 refine vE (cmd:=dC) Ri (by rw [k0]; simp) hs hl (fun b hb=>?_) (by decide) fun h3 L3 q=>?_
 ·unfold dC at hb
  simp at hb
  rcases hb with rfl | rfl | rfl | rfl <;> omega
 obtain ⟨u1,u2,u3⟩:=zm (r:=R i) (cmd:=dC)
 refine K h3 (A.post (B':=B + 1) hi q (aP.nil _ _) (by simp) (by omega) (by omega) (fun G g=>?_) (fun x hx=>by cases hx) ((A.sy hi).aI _) ((A.kp hi).aI lk _) (fun x hx=>by cases hx) (fun hr=>by rw [u1] at hr; rw [u2]; exact A.ak i hi hr) (by rw [u3]; have:=A.tk i hi; omega) fun O' h' M' S' kn' ld' A' e=>H O' h' M' S' kn' ld' A' e)
 obtain ⟨G',g1,g2⟩:=vM g.core hi.1 hi.2 (by omega) dC
 exact ⟨G',g1,g2,Lts.nil⟩
/-- the letters come -/
theorem ME {t7 t9:Int} {t8:Bool} {k:KP Bool} {nx1:KP Int} {nx2 nx3:KP (Int × Bool × Int)} {w0:PW} (A:Sx n B T O h M w0.R S w0.q kn ld) (hB:B + 4010<=8000000) (h9:0<=t9/\t9 < 400)
  (H:∀ B' O' h' M' S' kn' ld',B'<=B + 4010->Sx n B' (T + 2000) O' h' M' (dl 2000 w0).R S' (dl 2000 w0).q kn' ld'->M'.w=M.w->nx2 (t7,t8,t9 + 1) h'):oz (some ⟨M.w,0,none⟩) t7 t8 t9 0 k nx1 nx2 nx3 h:=by
 unfold oz
 refine ⟨fun j h'=>(0<=j/\j<=2000)/\∃ (B':Nat) (O':bz) (M':MLy) (S':Int->SS) (kn':List Ent) (ld':List Int),(B':Int)<=B + 2 * j/\Sx n B' (T + j.toNat) O' h' M' (dl j.toNat w0).R S' (dl j.toNat w0).q kn' ld'/\M'.w=M.w,fun j _=>(2000 - j).toNat,⟨by omega,B,O,M,S,kn,ld,by omega,by rw [show (0:Int).toNat=0 from rfl,JN]; exact A,rfl⟩,?_⟩
 rintro j h1 ⟨⟨j0,j1⟩,B1,O1,M1,S1,kn1,ld1,b1,A1,ew⟩
 have W:=A1.W
 have ltl:=W.l.len
 -- the end
 have fin:dl j.toNat w0=dl 2000 w0->ic (some ⟨M.w,0,none⟩) t7 t8 t9 j false k nx1 nx2 nx3 (fun j' h'=>((0<=j'/\j'<=2000)/\∃ (B':Nat) (O':bz) (M':MLy) (S':Int->SS) (kn':List Ent) (ld':List Int),(B':Int)<=B + 2 * j'/\Sx n B' (T + j'.toNat) O' h' M' (dl j'.toNat w0).R S' (dl j'.toNat w0).q kn' ld'/\M'.w=M.w)/\(2000 - j').toNat < (2000 - j).toNat) h1:=fun e=>by
  unfold ic
  rw [if_neg (by simp)]
  refine ⟨_,rfl,false,by rw [← ew]; exact W.c 4,?_⟩
  rw [if_neg (by simp)]
  refine ⟨_,rfl,?_⟩
  rw [az (by omega) (by omega)]
  rw [e] at A1
  exact H B1 O1 h1 M1 S1 kn1 ld1 (by omega) (A1.mono (by omega)) ew
 unfold qN
 by_cases hj:j < 2000
 ·rw [if_pos (by simpa using hj)]
  refine ⟨_,rfl,M1.lt,by rw [← ew]; exact W.c 1,?_⟩
  by_cases hl:(M1.lt.len:Int) > 0
  ·rw [show decide ((M1.lt.len:Int) > 0)=true from by simpa using hl]
   unfold ic
   rw [if_pos rfl]
   have:=yM (kp:=false) (k:=fun _ h34=>∃ x35:Int,x35=IntKind.i64.wrap (j + 1)/\((0<=x35/\x35<=2000)/\∃ (B':Nat) (O':bz) (M':MLy) (S':Int->SS) (kn':List Ent) (ld':List Int),(B':Int)<=B + 2 * x35/\Sx n B' (T + x35.toNat) O' h34 M' (dl x35.toNat w0).R S' (dl x35.toNat w0).q kn' ld'/\M'.w=M.w)/\(2000 - x35).toNat < (2000 - j).toNat) A1 (Int.le_refl 0) (by omega) (by omega) fun x hx B' O' h' M' S' kn' ld' b A' e=>by
    refine ⟨_,rfl,?_⟩
    rw [az (by omega) (by omega)]
    refine ⟨⟨by omega,B',O',M',S',kn',ld',by omega,?_,e.trans ew⟩,by omega⟩
    rw [show (j + 1).toNat=j.toNat + 1 from by omega,IB]
    have et:(dl j.toNat w0).take=PW.sJ ⟨(dl j.toNat w0).R,(dl j.toNat w0).q.eraseIdx 0⟩ x:=by
     unfold PW.take
     cases hq:(dl j.toNat w0).q with
     | nil=>rw [hq] at hx; simp at hx
     | cons y l =>
      rw [hq] at hx
      have:y=x:=by simpa using hx
      rw [this]; rfl
    rw [et]
    exact A'
   rw [ew] at this
   exact this
  ·rw [show decide ((M1.lt.len:Int) > 0)=false from by simpa using hl]
   refine fin ?_
   have hq:(dl j.toNat w0).q=[]:=List.length_eq_zero_iff.1 (by omega)
   rw [show 2000=j.toNat + (2000 - j.toNat) from by omega,nG,BF _ _ hq]
 ·rw [if_neg (by simpa using hj)]
  exact fin (by rw [show j.toNat=2000 from by omega])
/-- a round: all tick, then the letters come -/
theorem MQ {t9:Int} {k:KP Bool} {nx1:KP Int} {nx2:KP (Int × Bool × Int)} {z:Zt} (A:Sx n B T O h M z.1.R S z.1.q kn ld) (n5:n<=5) (hB:B + 4100<=8000000) (hT:T + 5000<=1000000000) (h9:0<=t9/\t9 < 400)
  (H:∀ B' O' h' M' S' kn' ld',B'<=B + 4100->Sx n B' (T + 2100) O' h' M' (uA n t9 z).1.R S' (uA n t9 z).1.q kn' ld'->M'.w=M.w->nx2 ((uA n t9 z).2.1,(uA n t9 z).2.2,t9 + 1) h'):oF (some ⟨M.w,0,none⟩) t9 z.2.1 z.2.2 0 k nx1 nx2 h:=by
 have n1:=A.W.n1
 unfold oF
 refine ⟨fun s h'=>(0<=s.2.2/\s.2.2<=n)/\s.1=(pq t9 s.2.2.toNat z).2.1/\s.2.1=(pq t9 s.2.2.toNat z).2.2/\∃ (B':Nat) (O':bz) (M':MLy) (S':Int->SS) (kn':List Ent) (ld':List Int),(B':Int)<=B + 4 * s.2.2/\Sx n B' (T + 2 * s.2.2.toNat) O' h' M' (pq t9 s.2.2.toNat z).1.R S' (pq t9 s.2.2.toNat z).1.q kn' ld'/\M'.w=M.w,fun s _=>(n - s.2.2).toNat,⟨by dsimp only; omega,rfl,rfl,B,O,M,S,kn,ld,by dsimp only; omega,A,rfl⟩,?_⟩
 rintro t7 t8 j h1 ⟨⟨j0,j1⟩,e7,e8,B1,O1,M1,S1,kn1,ld1,b1,A1,ew⟩
 dsimp only at j0 j1 e7 e8 b1 A1
 have W:=A1.W
 unfold qQ
 refine ⟨_,rfl,M1.m,by rw [← ew]; exact W.c0,?_⟩
 have eml:=W.ml
 by_cases hj:j < (M1.m.len:Int)
 ·rw [if_pos (by simpa using hj)]
  have hi:In n j:=⟨j0,by omega⟩
  obtain ⟨a,ha,i0,i1,cr,_⟩:=W.mr hi
  refine ⟨M1.m,by rw [← ew]; exact W.c0,a,ha,i0,i1,_,cr,?_⟩
  obtain ⟨w1,ew1⟩:∃ w1,w1=(pq t9 j.toNat z).1:=⟨_,rfl⟩
  rw [← ew1] at A1
  -- how it goes on
  have next:∀ (B2:Nat) (O2:bz) (h2:Heap) (M2:MLy) (S2:Int->SS) (kn2:List Ent) (ld2:List Int),B2<=B1 + 4->Sx n B2 (T + 2 * (j + 1).toNat) O2 h2 M2 (pq t9 (j + 1).toNat z).1.R S2 (pq t9 (j + 1).toNat z).1.q kn2 ld2->M2.w=M1.w->ig (some ⟨M.w,0,none⟩) t9 j (pq t9 (j + 1).toNat z).2.1 (pq t9 (j + 1).toNat z).2.2 k nx1 nx2 (fun s h'=>((0<=s.2.2/\s.2.2<=n)/\s.1=(pq t9 s.2.2.toNat z).2.1/\s.2.1=(pq t9 s.2.2.toNat z).2.2/\∃ (B':Nat) (O':bz) (M':MLy) (S':Int->SS) (kn':List Ent) (ld':List Int),(B':Int)<=B + 4 * s.2.2/\Sx n B' (T + 2 * s.2.2.toNat) O' h' M' (pq t9 s.2.2.toNat z).1.R S' (pq t9 s.2.2.toNat z).1.q kn' ld'/\M'.w=M.w)/\(n - s.2.2).toNat < (n - j).toNat) h2:=fun B2 O2 h2 M2 S2 kn2 ld2 b2 A2 e2=>by
   unfold ig
   refine ⟨_,rfl,?_⟩
   rw [az (by omega) (by omega)]
   dsimp only
   exact ⟨⟨by omega,rfl,rfl,B2,O2,M2,S2,kn2,ld2,by omega,A2,e2.trans ew⟩,by omega⟩
  have es:pq t9 (j + 1).toNat z=stp t9 (pq t9 j.toNat z) j:=by
   rw [show (j + 1).toNat=j.toNat + 1 from by omega]
   show stp t9 (pq t9 j.toNat z) ((j.toNat:Nat):Int)=_
   rw [show ((j.toNat:Nat):Int)=j from by omega]
  rw [← ew]
  refine Mq (R:=w1.R) (Ls:=w1.q) A1 hi (by omega) (by omega) fun O2 h2 M2 S2 kn2 ld2 A2 e2=>?_
  have W2:=A2.W
  obtain ⟨a2,ha2,q0,q1,cr2,_⟩:=W2.mr hi
  refine ⟨M2.m,by rw [← e2]; exact W2.c0,a2,ha2,q0,q1,_,cr2,uD (W2.r j hi) ?_⟩
  have e7':t7=(pq t9 j.toNat z).2.1:=e7
  have e8':t8=(pq t9 j.toNat z).2.2:=e8
  by_cases c:((w1.tick j).R j).role=2/\t8=false/\t9 > 200
  ·rw [if_pos (by rw [c.2.1]; simp; exact ⟨c.1,c.2.2⟩)]
   refine ⟨M2.m,by rw [← e2]; exact W2.c0,a2,ha2,q0,q1,_,cr2,_,_,rfl,rfl,_,rfl,?_⟩
   have X3:=Ext.push h2 (.cells ([.int .u8 108,.int .u8 97,.int .u8 115,.int .u8 116]:List Value).toArray 5 (4,5)) (Nat.le_refl _)
   have K3:=Blk.JY h2 [.int .u8 108,.int .u8 97,.int .u8 115,.int .u8 116] 5 (lo:=4) (hi:=5) (Nat.le_refl _)
   have A3:=A2.ext X3
   generalize h2.push (.cells ([.int .u8 108,.int .u8 97,.int .u8 115,.int .u8 116]:List Value).toArray 5 (4,5))=h3 at *
   have e3:stp t9 (pq t9 j.toNat z) j=((w1.tick j).pF j dC,if (((w1.tick j).R j).aI dC).2.2=0 then (((w1.tick j).R j).aI dC).2.1 else t7,decide ((((w1.tick j).R j).aI dC).2.2=0)):=by
    unfold stp
    rw [← ew1,← e7',← e8',if_pos c]
   rw [es,e3] at next
   dsimp only at next
   refine MW (R:=(w1.tick j).R) (Ls:=(w1.tick j).q) (kk:=fun _ h32=>ig (some ⟨M.w,0,none⟩) t9 j (if (((w1.tick j).R j).aI dC).2.2=0 then (((w1.tick j).R j).aI dC).2.1 else t7) (decide ((((w1.tick j).R j).aI dC).2.2=0)) k nx1 nx2 _ h32) A3 hi (by omega) (K3.slc (o:=0) (n:=4) rfl) rfl (fun _ _ _=>trivial) (fun O4 h4 M4 S4 kn4 ld4 A4 e4=>next (B1 + 2 + 1) O4 h4 M4 S4 kn4 ld4 (by omega) (by rw [show T + 2 * (j + 1).toNat=T + 2 * j.toNat + 1 + 1 from by omega]; exact A4) (e4.trans e2)) fun h5 Hp=>?_
   rw [e2] at Hp
   by_cases q:(((w1.tick j).R j).aI dC).2.2=0
   ·rw [if_pos (by simpa using q)]
    rw [if_pos q,decide_eq_true q] at Hp
    unfold jq
    rw [ew] at Hp ⊢
    exact Hp
   ·rw [if_neg (by simpa using q)]
    rw [if_neg q,decide_eq_false q,← c.2.1] at Hp
    unfold jq
    rw [ew] at Hp ⊢
    exact Hp
  ·rw [if_neg (by
    intro q
    simp only [Bool.and_eq_true,beq_iff_eq,Bool.not_eq_true',decide_eq_true_eq] at q
    exact c ⟨q.1.1,q.1.2,q.2⟩)]
   have e3:stp t9 (pq t9 j.toNat z) j=(w1.tick j,t7,t8):=by
    rw [BD (by rw [← ew1,← e8']; exact c),← ew1,← e7',← e8']
   rw [es,e3] at next
   dsimp only at next
   have:=next (B1 + 2) O2 h2 M2 S2 kn2 ld2 (by omega) (A2.mono (by omega)) e2
   rw [ew]
   exact this
 ·rw [if_neg (by simpa using hj)]
  have en:j.toNat=n.toNat:=by omega
  rw [e7,e8,en]
  rw [en] at A1
  rw [← ew]
  refine ME A1 (by omega) h9 fun B2 O2 h2 M2 S2 kn2 ld2 b2 A2 e2=>?_
  have:=H B2 O2 h2 M2 S2 kn2 ld2 (by omega) (A2.mono (by omega)) (e2.trans ew)
  exact this
/-- all rounds -/
theorem Nk {k:KP Bool} {nx1:KP Int} {w0:PW} (A:Sx n B T O h M w0.R S w0.q kn ld) (n5:n<=5) (hB:B<=1000) (hT:T<=1000)
  (H:∀ B' T' O' h' M' S' kn' ld' nx2,Sx n B' T' O' h' M' (run n (w0,0,false) 400).1.R S' (run n (w0,0,false) 400).1.q kn' ld'->M'.w=M.w->lH (some ⟨M.w,0,none⟩) (run n (w0,0,false) 400).2.1 (run n (w0,0,false) 400).2.2 0 0 k nx1 nx2 h'):oG (some ⟨M.w,0,none⟩) 0 false 0 k nx1 h:=by
 unfold oG
 refine ⟨fun s h'=>(0<=s.2.2/\s.2.2<=400)/\s.1=(run n (w0,0,false) s.2.2.toNat).2.1/\s.2.1=(run n (w0,0,false) s.2.2.toNat).2.2/\∃ (B':Nat) (O':bz) (M':MLy) (S':Int->SS) (kn':List Ent) (ld':List Int),(B':Int)<=B + 4100 * s.2.2/\Sx n B' (T + 2100 * s.2.2.toNat) O' h' M' (run n (w0,0,false) s.2.2.toNat).1.R S' (run n (w0,0,false) s.2.2.toNat).1.q kn' ld'/\M'.w=M.w,fun s _=>(400 - s.2.2).toNat,⟨by dsimp only; omega,rfl,rfl,B,O,M,S,kn,ld,by dsimp only; omega,A,rfl⟩,?_⟩
 rintro t7 t8 t9 h1 ⟨⟨j0,j1⟩,e7,e8,B1,O1,M1,S1,kn1,ld1,b1,A1,ew⟩
 dsimp only at j0 j1 e7 e8 b1 A1
 unfold qI
 by_cases hj:t9 < 400
 ·rw [if_pos (by simpa using hj),← ew,e7,e8]
  refine MQ A1 n5 (by omega) (by omega) ⟨j0,hj⟩ fun B2 O2 h2 M2 S2 kn2 ld2 b2 A2 e2=>?_
  have er:run n (w0,0,false) (t9 + 1).toNat=uA n t9 (run n (w0,0,false) t9.toNat):=by
   rw [show (t9 + 1).toNat=t9.toNat + 1 from by omega]
   show uA n ((t9.toNat:Nat):Int) (run n (w0,0,false) t9.toNat)=_
   rw [show ((t9.toNat:Nat):Int)=t9 from by omega]
  dsimp only
  rw [er]
  exact ⟨⟨by omega,rfl,rfl,B2,O2,M2,S2,kn2,ld2,by omega,A2.mono (by omega),e2⟩,by omega⟩
 ·rw [if_neg (by simpa using hj)]
  have e4:t9.toNat=400:=by omega
  rw [e4] at e7 e8 A1
  rw [e7,e8]
  exact H B1 _ O1 h1 M1 S1 kn1 ld1 _ A1 ew
end
end Go.Q.Yi
end
section
/- RaftLives. -/
namespace Go.Q.Yi
open Rf
section
variable [QC] {n:Int} {O:bz} {h h':Heap} {M:MLy} {R:Int->RS} {S:Int->SS} {Ls Ls0:List Let} {kn:List Ent} {ld:List Int} {i:Int} {B T B':Nat}
/-- what is seen at the end -/
theorem Mf {k:KP Bool} {nx1:KP Int} {nx2:KP (Int × Bool × Int)} {z:Zt} (A:Sx n B T O h M z.1.R S z.1.q kn ld) (F:Fin n z) (H:∀ h',Ext h.size h h'->k true h'):lH (some ⟨M.w,0,none⟩) z.2.1 z.2.2 0 0 k nx1 nx2 h:=by
 have n1:=A.W.n1
 obtain ⟨⟨c,hc,c2,c1⟩,cm,x1,en⟩:=F.look
 have ix:=F.g.cm hc
 have lx:=F.g.log hc
 have cx:=cm c hc
 have hc':=hc
 unfold Mb at hc'
 unfold lH
 refine ⟨fun s h'=>(0<=s.2/\s.2<=n)/\s.1=(if c < s.2 then 1 else 0)/\Ext h.size h h',fun s _=>(n - s.2).toNat,⟨by dsimp only; omega,by dsimp only; rw [if_neg (by omega)],Ext.refl _ _⟩,?_⟩
 rintro t14 j h1 ⟨⟨j0,j1⟩,e14,X1⟩
 dsimp only at j0 j1 e14
 have A1:=A.ext X1
 have W:=A1.W
 have eml:=W.ml
 unfold qL
 refine ⟨_,rfl,M.m,W.c0,?_⟩
 by_cases hj:j < (M.m.len:Int)
 ·rw [if_pos (by simpa using hj)]
  have hi:In n j:=⟨j0,by omega⟩
  have hm:Mb n j:=hi
  obtain ⟨a,ha,i0,i1,cr,_⟩:=W.mr hi
  refine ⟨M.m,W.c0,a,ha,i0,i1,_,cr,uD (W.r j hi) ?_⟩
  -- the entry is looked at
  have next:∀ t:Int,t=(if c < j + 1 then 1 else 0)->jD (some ⟨M.w,0,none⟩) z.2.1 z.2.2 j (some ⟨(M.rs j).b,0,none⟩) t k nx1 nx2 (fun s h'=>((0<=s.2/\s.2<=n)/\s.1=(if c < s.2 then 1 else 0)/\Ext h.size h h')/\(n - s.2).toNat < (n - j).toNat) h1:=fun t et=>by
   unfold jD
   refine yS (W.r j hi) (by omega) fun v h4 ht Tv X4=>?_
   have z1:=X1.size
   have z4:=X4.size
   have X5:Ext h4.size h4 (aU (h4.push (.cells (ae.cs ⟨0,⟨none,0,0⟩⟩).toArray 65)) ⟨h4.size,0,none⟩ 0 (ae.cs v)):=(Ext.push h4 _ (Nat.le_refl _)).trans (Ext.sets _ _ _ (Nat.le_refl _))
   have P5:=(Blk.push h4 (ae.cs ⟨0,⟨none,0,0⟩⟩) 65).jZ (vs:=ae.cs v) rfl
   refine ⟨_,_,rfl,rfl,_,dE.eQ (Blk.push h4 _ _) (by show 2<=2; omega),rfl,?_⟩
   obtain ⟨bb,ebb⟩:∃ c,c=h4.size:=⟨_,rfl⟩
   rw [← ebb] at P5 ⊢
   have X15:Ext h1.size h1 (aU (h4.push (.cells (ae.cs ⟨0,⟨none,0,0⟩⟩).toArray 65)) ⟨bb,0,none⟩ 0 (ae.cs v)):=X4.trans (by rw [ebb]; exact X5.mono z4)
   have Tv5:Row h1.size (aU (h4.push (.cells (ae.cs ⟨0,⟨none,0,0⟩⟩).toArray 65)) ⟨bb,0,none⟩ 0 (ae.cs v)) 5 1 v.oH (b8 ((z.1.R j).entry z.2.1).1.2):=by rw [ebb]; exact Tv.ext X5 fun g hg=>(Tv.bd hg).2
   generalize aU (h4.push (.cells (ae.cs ⟨0,⟨none,0,0⟩⟩).toArray 65)) ⟨bb,0,none⟩ 0 (ae.cs v)=h5 at *
   have A5:=A1.ext X15
   refine o9 (A5.W.r j hi) ?_
   have cj:=cm j hm
   rw [if_neg (by simpa using cj)]
   have fin:iP (some ⟨M.w,0,none⟩) z.2.1 z.2.2 t j false k nx1 nx2 (fun s h'=>((0<=s.2/\s.2<=n)/\s.1=(if c < s.2 then 1 else 0)/\Ext h.size h h')/\(n - s.2).toNat < (n - j).toNat) h5:=by
    unfold iP
    rw [if_neg (by simp)]
    refine ⟨_,rfl,?_⟩
    rw [az (by omega) (by omega)]
    exact ⟨⟨by dsimp only; omega,et,X1.trans (X15.mono z1)⟩,by dsimp only; omega⟩
   by_cases he:((z.1.R j).entry z.2.1).2=0
   ·rw [if_pos (by simpa using he)]
    have ec:=en j hm he
    rw [ec] at Tv5
    refine ⟨v.oH,by rw [P5.get]; rfl,dC,by have:=Tv5.len; simpa using this.symm,Tv5.slc,?_⟩
    unfold iW
    rw [show (!((BN dC).toList == (⟨#[108,97,115,116]⟩:ByteArray).toList))=false from by rw [show BN dC=(⟨#[108,97,115,116]⟩:ByteArray) from rfl]; simp]
    exact fin
   ·rw [if_neg (by simpa using he)]
    unfold iW
    exact fin
  by_cases hr:(z.1.R j).role=2
  ·rw [if_pos (by simpa using hr)]
   have ej:=c1 j hm hr
   refine ⟨_,rfl,next _ ?_⟩
   rw [e14,ej,if_neg (by omega),az (by omega) (by omega),if_pos (by omega)]
   rfl
  ·rw [if_neg (by simpa using hr)]
   refine next _ ?_
   have ne:j≠c:=fun e=>hr (by rw [e]; exact c2)
   rw [e14]
   by_cases q:c < j
   ·rw [if_pos q,if_pos (by omega)]
   ·rw [if_neg q,if_neg (by omega)]
 ·rw [if_neg (by simpa using hj)]
  have e1:t14=1:=by rw [e14,if_pos (by omega)]
  rw [e1,F.pr,if_pos (by simp)]
  refine D5 fun h' X=>?_
  unfold kV
  exact H h' (X1.trans (X.mono X1.size))
end
theorem RaftLives_ok {size:Int} {script:Slc} {acts:List S_quaestorlaw26_Act} {k:KP Bool} {h:Heap} (s0:0<=size/\size < 256) (L:LsAt S_quaestorlaw26_Act.cs 3 h script acts) (H:∀ h',Ext h.size h h'->k true h'):qD size script k h:=by
 letI:QC:=⟨fun h'=>Ext h.size h h'⟩
 unfold qD
 have hm:0<=Int.tmod size 5/\Int.tmod size 5 < 5:=by
  rw [Int.tmod_eq_emod_of_nonneg s0.1]; omega
 rw [az (x:=Int.tmod size 5) (by omega) (by omega),az (by omega) (by omega)]
 refine Gc (by omega) (fun h' X=>X) fun O h1 M A=>?_
 have hn:1<=1 + Int.tmod size 5/\1 + Int.tmod size 5<=5:=by omega
 generalize 1 + Int.tmod size 5=n at A hn
 unfold ru
 refine ⟨fun t h'=>(0<=t/\t<=60)/\∃ (B:Nat) (O:bz) (M':MLy) (R:Int->RS) (S:Int->SS) (Ls:List Let) (kn:List Ent) (ld:List Int),Sx n B t.toNat O h' M' R S Ls kn ld/\Scr n t.toNat ⟨R,Ls⟩/\(B:Int)<=2 * t/\M'.w=M.w,fun t _=>(1000 - t).toNat,⟨by omega,0,O,M,_,_,_,_,_,A,Scr.begin hn.1,by omega,rfl⟩,?_⟩
 rintro t h2 ⟨⟨t0,t1⟩,B,O2,M2,R,S,Ls,kn,ld,A2,C2,hB,ew⟩
 have LA:LsAt S_quaestorlaw26_Act.cs 3 h2 script acts:=L.ext A2.W.im.now
 unfold qR
 by_cases ht:t < (script.len:Int)/\t < 60
 ·rw [if_pos (by simpa using ht)]
  obtain ⟨a,x,ha,_,l1,_,ca⟩:=LA.it (i:=t) t0 (by have:=LA.l; omega)
  refine ⟨a,ha,t0,ht.1,x,ca,?_⟩
  rw [← ew]
  refine Ng A2 hn.2 (by omega) (by omega) fun B' O' h' M' R' S' Ls' kn' ld' b A' sc e=>?_
  refine ⟨_,rfl,?_⟩
  rw [az (by omega) (by omega)]
  refine ⟨⟨by omega,B',O',M',R',S',Ls',kn',ld',by rw [show (t + 1).toNat=t.toNat + 1 from by omega]; exact A',?_,by omega,e⟩,by dsimp only; omega⟩
  rw [show (t + 1).toNat=t.toNat + 1 from by omega]
  exact sc _ (by omega) C2
 ·rw [if_neg (by simpa using ht),← ew]
  have F:Fin n (run n ((⟨R,Ls⟩:PW),0,false) 400):=lives C2 (by omega) (A2.good hn.2 (by omega))
  refine Nk (w0:=⟨R,Ls⟩) A2 hn.2 (by omega) (by omega) fun B' T' O' h' M' S' kn' ld' nx2 A' e=>?_
  rw [← e]
  exact Mf A' F fun h9 X=>by
   have X0:Ext h.size h h':=A'.W.im.now
   exact H h9 (X0.trans (X.mono X0.size))
end Go.Q.Yi
end

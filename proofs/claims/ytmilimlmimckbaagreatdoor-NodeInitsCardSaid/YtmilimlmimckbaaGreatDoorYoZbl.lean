/- A part of the proof of statements of this seat: lemmas, no statement of their own. -/
import Derived.Test.YtmilimlmimckbaaGreatDoorYoZbj
import Derived.Test.YtmilimlmimckbaaGreatDoorYoZbk
import Derived.Test.YtmilimlmimckbaaGreatDoorYoZag
import Derived.Shelf.Spec.BitsCarry
import Derived.Test.YtmilimlmimckbaaGreatDoorYoZbe
import Derived.Test.YtmilimlmimckbaaGreatDoorYoZas
import Derived.Test.YtmilimlmimckbaaGreatDoorYoZbg
import Derived.Test.YtmilimlmimckbaaGreatDoorYoZbh
import Derived.Test.YtmilimlmimckbaaGreatDoorYoZbi
import Derived.KernelRfl
import Derived.Test.YtmilimlmimckbaaGreatDoorYoZae
import Derived.Test.YtmilimlmimckbaaGreatDoorYoZaf
import Derived.Test.YtmilimlmimckbaaGreatDoorYoZaz
set_option linter.unusedVariables false
set_option linter.unusedSimpArgs false
set_option maxRecDepth 100000
set_option maxHeartbeats 1000000
section
namespace Go.V
open Go.Q Go.Q.Yo
noncomputable section
theorem Rel.oneR {base hc:zaa} {g k:Nat} {bl:Blk} (hs:base.size<=hc.size) (ho:∀ i,i<base.size->hc[i]? = base[i]?) (hw:bl.wr=false) (r:RelO (zsj g k) bl ⟨g,0,k⟩ hc):Rel base (zsj g k) (qck bl) hc:=by
 have only:∀ b' bl',b'<4 ^ DH->gt DH b' (qck bl).h=some bl'->b'=GN/\bl'=bl:=fun b' bl' l h=>by
  have h':gt DH b' (st DH GN (some bl) (mt Blk DH))=some bl':=h;by_cases hb:b'=GN
  ·subst hb;rw [zht] at h';cases h';exact⟨rfl,rfl⟩
  ·rw [zar _ _ _ _ _ (by decide) l (Ne.symm hb),zmk] at h';cases h'
 refine⟨fun b x e=>?_,(by show GN+1<=4 ^ DH;decide),fun b h1 h2=>?_,fun b hb=>zyg hb,fun b bl' x hb hgt e=>?_,fun b b' bl1 bl2 x x' hb hb' g1 g2 e1 e2 hne _=>?_,hs,ho⟩
 ·show b<GN+1
  unfold zsj at e;split at e
  ·omega
  ·split at e
   ·omega
   ·cases e
 ·cases hq:gt DH b (qck bl).h with
  | none=>rfl
  | some y =>
   have:=(only b y h2 hq).1;have h1':GN+1<=b:=h1;omega
 ·obtain⟨rfl,rfl⟩:=only b bl' hb hgt
  rw [zk1] at e;cases e;exact⟨r,fun h=>by rw [hw] at h;cases h⟩
 ·have:=(only b bl1 hb g1).1
  have:=(only b' bl2 hb' g2).1;omega
abbrev aQ (n:Nat):AV:=.i .u64 (.ofNat n)
def toQ (l:List AV) (K:List Nat->Rs):Rs:=List.rec (motive:=fun _=>(List Nat->Rs)->Rs) (fun K=>K []) (fun v _ ih K=>(dK .u64).x v fun n=>ih fun r=>K (n :: r)) l K
theorem qc1:∀(l:List AV) (K:List Nat->Rs),toQ l K=true->∃ ns:List Nat,l=ns.map aQ/\K ns=true
 | [],K,H=>⟨[],rfl,H⟩
 | v :: l,K,H=>by
  have H1:(dK .u64).x v (fun n=>toQ l fun r=>K (n :: r))=true:=H;obtain⟨n,hq,H2⟩:=qke H1;obtain⟨ns,h1,h2⟩:=qc1 l _ H2;exact⟨n :: ns,by rw [hq,h1];rfl,h2⟩
theorem zxh {φ:Ph}:∀ l:List Nat,cvs φ (l.map aQ)=some ((cI l).map (Value.int .u64))
 | []=>rfl
 | n :: l=>zbh rfl (zxh l)
def ag5 (v:AV) (K:List Nat->Rs):Rs:=dG.x v fun l=>toQ l fun ns=>Bool.rec (motive:=fun _=>Rs) false (K ns) (Nat.beq (zgs ns) 5)
theorem zrc {v:AV} {K:List Nat->Rs} (h:ag5 v K=true):∃ ns:List Nat,v = .ag (ns.map aQ)/\ns.length=5/\K ns=true:=by
 obtain⟨l,rfl,h1⟩:=zsn h;obtain⟨ns,rfl,h3⟩:=qc1 _ _ h1;obtain⟨h4,h5⟩:=zjf h3;rw [zav] at h4;exact⟨ns,rfl,h4,h5⟩
theorem zit {φ:Ph} {ns:List Nat} (hl:ns.length=5):cv φ (.ag (ns.map aQ))=some (g5 (cI ns)):=by
 unfold g5;rw [arr_id (by rw [List.length_map];exact hl)];exact zfn.2 ⟨_,zxh ns,fun w hw=>by obtain⟨x,_,rfl⟩:=List.mem_map.1 hw;rfl,rfl⟩
def E0:HS:=⟨GN,mt Blk DH⟩
theorem zux {P:Program} {call0:zbk} (CO:za7 P call0) {f:Nat} {vs:List AV} {K:AV->HS->Rs} (H:call0 f vs E0 K=true) {us:List Value} (hv:∀ φ,cvs φ vs=some us) :
  ∃ v h1,K v h1=true/\∀ ur,(∀ φ,cv φ v=some ur)->PureC P f us ur:=by
 obtain⟨_,v,h1,hq,hc⟩:=CO _ _ _ _ H;refine⟨v,h1,hq,fun ur hu h=>?_⟩;have R:=Rel.zero (base:=h) (hc:=h) (Nat.le_refl _) (fun _ _=>rfl);refine(hc h _ h us R (hv _)).mono ?_;rintro u h' ⟨φ',X,R',hcu⟩;rw [hu] at hcu;exact⟨(Option.some.inj hcu).symm,R'.sz,R'.old⟩
def z17 (n:Nat):List AV:=Nat.rec (motive:=fun _=>List AV) [] (fun _ ih=>aB 0 :: ih) n
theorem qdu:∀ n,z17 n=(List.replicate n 0).map aB
 | 0=>rfl
 | n+1=>by rw [List.replicate_succ,List.map_cons,← qdu n];rfl
def qko (l:List Nat) (t:List AV):List AV:=List.rec (motive:=fun _=>List AV) t (fun n _ ih=>aB n :: ih) l
theorem zzr (t:List AV):∀ l:List Nat,qko l t=l.map aB++t
 | []=>rfl
 | n :: l=>congrArg (aB n :: ·) (zzr t l)
def tgL (call0:zbk) (r:List Nat) (N:Nat):List Nat->List Nat->(List Nat->Rs)->Rs:=Nat.rec (motive:=fun _=>List Nat->List Nat->(List Nat->Rs)->Rs) (fun _ s K=>K s)
 (fun _ ih bs s K=>qlp (upTo 16 bs) fun ch=>call0 400 [.ag (qko ch (aB 1 :: z17 (Nat.sub 16 (zgs ch))))] E0 fun v _=>ag5 v fun b=>call0 399 [.ag (s.map aQ),.ag (b.map aQ)] E0 fun v _=>ag5 v fun q=>call0 401 [.ag (q.map aQ),.ag (r.map aQ)] E0 fun v _=>ag5 v fun s=>ih (zgz 16 bs) s K) N
where upTo (n:Nat):List Nat->List Nat:=Nat.rec (motive:=fun _=>List Nat->List Nat) (fun _=>[]) (fun _ ih l=>List.rec (motive:=fun _=>List Nat) [] (fun v r _=>v :: ih r) l) n
theorem zzv:∀(n:Nat) (l:List Nat),tgL.upTo n l=l.take n
 | 0,l=>by cases l <;> rfl
 | n+1,[]=>rfl
 | n+1,v :: l=>congrArg (v :: ·) (zzv n l)
theorem qpj {ch:List Nat} (hl:ch.length<=16) {φ:Ph}:cv φ (.ag (qko ch (aB 1 :: z17 (Nat.sub 16 (zgs ch)))))=some (.agg (arr 17 .u8 (cI ch++[1])).toArray):=by
 have e:qko ch (aB 1 :: z17 (Nat.sub 16 (zgs ch)))=(ch++1 :: List.replicate (16-ch.length) 0).map aB:=by
  rw [zzr,qdu,zav,List.map_append,List.map_cons];rfl
 have l17:(ch++1 :: List.replicate (16-ch.length) 0).length=17:=by simp;omega
 rw [e,znq l17];congr 3;rw [zde,zde];congr 1;apply List.ext_getElem?;intro i;by_cases hi:i<17
 ·rw [zgf _ _ hi,zgf _ _ hi]
  congr 1
  rw [List.getD_eq_getElem?_getD,List.getD_eq_getElem?_getD];unfold cI;rw [List.map_append];by_cases h2:i<ch.length
  ·rw [List.getElem?_append_left (by rw [List.length_map];exact h2),List.getElem?_append_left (by rw [List.length_map];exact h2)]
  ·rw [List.getElem?_append_right (by rw [List.length_map];omega),List.getElem?_append_right (by rw [List.length_map];omega),List.length_map]
   cases hj:i-ch.length with
   | zero=>rfl
   | succ j =>
    rw [List.map_cons,List.getElem?_cons_succ,List.getElem?_cons_succ,List.map_replicate,List.getElem?_replicate];split <;> rfl
 ·rw [List.getElem?_eq_none (by rw [zhb];omega),List.getElem?_eq_none (by rw [zhb];omega)]
theorem qcr {call0:zbk} (CO:za7 Go.Proofs.Tryz.prog call0) {r:List Nat} (hr:r.length=5):∀(N:Nat) (bs s:List Nat) (K:List Nat->Rs),s.length=5->tgL call0 r N bs s K=true ->
  ∃ S:Nat->List Nat,S 0=s/\(S N).length=5/\K (S N)=true/\∀ k,k<N->∃ b q:List Int,PureC Go.Proofs.Tryz.prog 400 [.agg (arr 17 .u8 (zff (cI bs) k++[1])).toArray] (g5 b)/\PureC Go.Proofs.Tryz.prog 399 [g5 (cI (S k)),g5 b] (g5 q)/\PureC Go.Proofs.Tryz.prog 401 [g5 q,g5 (cI r)] (g5 (cI (S (k+1))))
 | 0,bs,s,K,hs,H=>⟨fun _=>s,rfl,hs,H,fun k hk=>by omega⟩
 | N+1,bs,s,K,hs,H=>by
  have H0:qlp (tgL.upTo 16 bs) (fun ch=>call0 400 [.ag (qko ch (aB 1 :: z17 (Nat.sub 16 (zgs ch))))] E0 fun v _=>ag5 v fun b=>call0 399 [.ag (s.map aQ),.ag (b.map aQ)] E0 fun v _=>ag5 v fun q=>call0 401 [.ag (q.map aQ),.ag (r.map aQ)] E0 fun v _=>ag5 v fun s=>tgL call0 r N (zgz 16 bs) s K)=true:=H;rw [zpn,zzv] at H0;have l16:(bs.take 16).length<=16:=by rw [List.length_take];omega
  obtain⟨v1,h1,H1,p1⟩:=zux CO H0 (us:=[.agg (arr 17 .u8 (cI (bs.take 16)++[1])).toArray]) (fun φ=>zbh (qpj l16) rfl);obtain⟨b,rfl,lb,H2⟩:=zrc H1;obtain⟨v2,h2,H3,p2⟩:=zux CO H2 (us:=[g5 (cI s),g5 (cI b)]) (fun φ=>zbh (zit hs) (zbh (zit lb) rfl));obtain⟨q,rfl,lq,H4⟩:=zrc H3;obtain⟨v3,h3,H5,p3⟩:=zux CO H4 (us:=[g5 (cI q),g5 (cI r)]) (fun φ=>zbh (zit lq) (zbh (zit hr) rfl));obtain⟨s',rfl,ls,H6⟩:=zrc H5;rw [dropL_eq] at H6;obtain⟨S,S0,SN,HK,SS⟩:=qcr CO hr N (bs.drop 16) s' K ls H6;refine⟨fun k=>Nat.rec (motive:=fun _=>List Nat) s (fun k _=>S k) k,rfl,SN,HK,fun k hk=>?_⟩
  cases k with
  | zero =>
   refine⟨cI b,cI q,?_,p2 _ (fun φ=>zit lq),?_⟩
   ·have:zff (cI bs) 0=cI (bs.take 16):=by unfold zff cI;rw [List.map_take];rfl
    rw [this];exact p1 _ (fun φ=>zit lb)
   ·show PureC _ 401 _ (g5 (cI (S 0)))
    rw [S0]
    exact p3 _ (fun φ=>zit ls)
  | succ k =>
   obtain⟨b',q',c1,c2,c3⟩:=SS k (by omega);refine⟨b',q',?_,c2,c3⟩
   have:zff (cI bs) (k+1)=zff (cI (bs.drop 16)) k:=by
    unfold zff cI;rw [List.map_drop,List.drop_drop,show 16*(k+1)=16+16*k from by omega]
   rw [this];exact c1
def qqy (call0:zbk) (vs:List AV) (h:HS) (K:AV->HS->Rs):Rs:=a2 vs fun key ps=>agB 32 key fun kb=>slc 1 ps h fun m l=>Bool.rec (motive:=fun _=>Rs) false
 (qnd h l fun ns=>qlp ns fun ns=>zb3 (zgs ns) fun n=>Bool.rec (motive:=fun _=>Rs) false
  (call0 397 [key] E0 fun v _=>ag5 v fun r=>tgL call0 r (Nat.div (Nat.add n 15) 16) ns [0,0,0,0,0] fun s =>
   call0 403 [.ag (s.map aQ)] E0 fun v _=>ag5 v fun fi=>call0 404 [.ag (fi.map aQ)] E0 fun v _=>agB 16 v fun tg =>
    wt 3 (kb.map aB) 0 (mt AV 3) fun c=>call0 402 [.ag (tg.map aB),.sl GN 16 16 16] (qck (.c ⟨32,false,false,5,1,3,c⟩)) fun v _=>agB 16 v fun out=>K (.ag (out.map aB)) h) (and (Nat.blt 0 n) (Nat.ble n 60000))) (Nat.ble m 10)
theorem zr2:zad Go.Proofs.Tryz.prog 299:=⟨_,Go.Proofs.Tryz.func299,by kernel_rfl,by kernel_rfl⟩
theorem qg4 {call0:zbk} (CO:za7 Go.Proofs.Tryz.prog call0):FnOk Go.Proofs.Tryz.prog 299 fun _=>qqy call0:=FnOk.grow zr2 fun vs h K H=>by
 obtain⟨key,ps,hvs,H1⟩:=qbo H;subst hvs;obtain⟨kb,hk,bk,lk,H2⟩:=zyx H1;obtain⟨m,l,H3,hl,hs⟩:=zmd H2;obtain⟨hm,H4⟩:=zhu H3;obtain⟨nss,H5,ln,bn,gp⟩:=zs0 _ _ H4;rw [zpn,natK_eq,zav] at H5;obtain⟨hh,H6⟩:=zbz H5;obtain⟨h0,hn⟩:=zag.1 hh;replace h0:0<nss.flatten.length:=by rw [Nat.blt_eq] at h0;exact h0
 replace hn:=Nat.le_of_ble_eq_true hn;subst hk;have lkI:(cI kb).length=32:=by rw [List.length_map];exact lk
 obtain⟨v1,g1,H7,p1⟩:=zux CO H6 (us:=[.agg (arr 32 .u8 (cI kb)).toArray]) (fun φ=>zbh (znq lk) rfl);obtain⟨r,rfl,lr,H8⟩:=zrc H7;obtain⟨S,S0,SN,H9,SS⟩:=qcr CO lr _ _ _ _ rfl H8;obtain⟨v2,g2,H10,p2⟩:=zux CO H9 (us:=[g5 (cI (S (Nat.div (Nat.add nss.flatten.length 15) 16)))]) (fun φ=>zbh (zit SN) rfl);obtain⟨fi,rfl,lf,H11⟩:=zrc H10;obtain⟨v3,g3,H12,p3⟩:=zux CO H11 (us:=[g5 (cI fi)]) (fun φ=>zbh (zit lf) rfl);obtain⟨tg,rfl,bt,lt,H13⟩:=zyx H12;rw [zoc] at H13;obtain⟨_,v4,g4,H14,c4⟩:=CO _ _ _ _ H13;obtain⟨out,rfl,bo,lo,H15⟩:=zyx H14;refine⟨_,H15,fun base φ hc us R hv=>?_⟩;obtain⟨u,y,rfl,c1,c2⟩:=qmv hv;rw [znq lk] at c1
 cases c1
 obtain⟨s,rfl,hsm,us',k1,k2,k3,k4⟩:=hs φ hc y R.toR c2;obtain⟨L,rfl,eL,aL⟩:=gp φ hc us' R.toR k1
 have ef:zdf L=cI nss.flatten:=by
  unfold zdf;rw [eL];exact List.map_flatten.symm
 have lL:L.length=m:=by
  have:=congrArg List.length eL;rw [List.length_map,List.length_map] at this;omega
 have lfl:(zdf L).length=nss.flatten.length:=by rw [ef,List.length_map]
 have eN:Nat.div (Nat.add nss.flatten.length 15) 16=((zdf L).length+15) / 16:=by rw [lfl];rfl
 rw [eN] at SN p2 SS;refine⟨.agg (arr 16 .u8 (cI out)).toArray,znq lo,?_⟩;intro w hw;subst hw
 let st:Nat->List Int:=fun k=>Nat.rec (motive:=fun _=>List Int) [] (fun k _=>cI (S (k+1))) k
 have est:∀ k,g5 (st k)=g5 (cI (S k)):=fun k=>by
  cases k with
  | zero=>show g5 []=g5 (cI (S 0));rw [S0];rfl
  | succ k=>rfl
 refine(callsIn_wide.1 (qkr (key:=cI kb) (ps:=s) (L:=L) (r:=cI r) (st:=st) (fin:=cI fi) (tg:=cI tg) (out:=cI out) lkI k4 (by omega) aL (by omega) (by omega) (by omega) (p1 _ fun φ=>zit lr) rfl (fun k hk=>?_) ?_ (p3 _ fun φ=>znq lt) ?_)).mono ?_
 ·obtain⟨b,q,d1,d2,d3⟩:=SS k hk
  rw [ef];exact⟨b,q,d1,by rw [est];exact d2,d3⟩
 ·rw [est];exact p2 _ fun φ=>zit lf
 ·intro h' b K
  have R1:Rel h' (zsj b 0) (qck (.c ⟨32,false,false,5,1,3,sts 3 (kb.map aB) 0 (mt AV 3)⟩)) h':=by
   refine Rel.oneR (Nat.le_refl _) (fun _ _=>rfl) rfl ?_;show RelB _ _ _ _;refine⟨K.lt,by show 32<=4 ^ 3;decide,by show 32<=CB.room _ _;unfold CB.room;rw [if_neg (by simp)];exact Nat.le_refl _,fun j hj=>?_,fun hw=>by cases hw⟩;have hj':j<32:=hj
   have hg:gt 3 j (sts 3 (kb.map aB) 0 (mt AV 3))=some (aB (kb[j]'(by omega))):=by
    rw [zl3 _ _ _ _ (by rw [List.length_map,lk];decide) (Nat.lt_of_lt_of_le hj' (by decide)),if_pos ⟨Nat.zero_le _,by rw [List.length_map];omega⟩,Nat.sub_zero,List.getElem?_map,List.getElem?_eq_getElem (by omega)];rfl
   refine⟨_,.int .u8 ((kb[j]'(by omega):Nat):Int),hg,rfl,rfl,?_⟩;show zab h' ⟨b,0+j,none⟩=_;rw [Nat.zero_add,K.cell,List.getElem?_map,List.getElem?_map,List.getElem?_eq_getElem (by omega)];rfl
  refine(c4 h' (zsj b 0) h' [.agg (arr 16 .u8 (cI tg)).toArray,.slice (some ⟨b,16,none⟩) 16 16] R1 (zbh (znq lt) (zbh (zdj.2 ⟨_,zk1,(by rw [zld (by decide)];exact Nat.le_refl _),by rw [zld (by decide)]⟩) rfl))).mono ?_;rintro u h'' ⟨φ',X,R',hcu⟩;rw [znq lo] at hcu;exact⟨(Option.some.inj hcu).symm,R'.sz,R'.old⟩
 ·rintro e w' ⟨rfl,e1,e2,e3,X⟩
  exact⟨_,rfl,⟨e1,e2,e3,rfl,fun h=>by cases h⟩,rfl,X⟩
end
end Go.V
end
section
namespace Go.Q
open Go.Proofs
theorem qgb {P:Program} {f:FuncId} {fn:Func} (x y c:Int) (hf:P.funcs[f]? = some fn) (hname:(fn.name == "runtime.NumGoroutine")=false) (hb:fn.body.isNone=true) (hn:Extern.findNext fn=none) (he:Extern.find fn=some add64Entry)
  (h0:0<=x/\0<=y/\0<=c/\c<=1) (w:World) :
  (callFunc f [.int .u64 x,.int .u64 y,.int .u64 c].toArray).run P w = .ok (.value (.tuple #[.int .u64 ((x+y+c) % 18446744073709551616),.int .u64 ((x+y+c) / 18446744073709551616)])) w:=by
 obtain⟨a0,a1,a2,a3⟩:=h0;obtain⟨n,rfl⟩:=Int.eq_ofNat_of_zero_le a0;obtain⟨m,rfl⟩:=Int.eq_ofNat_of_zero_le a1;obtain⟨k,rfl⟩:=Int.eq_ofNat_of_zero_le a2;rw [run_callFunc_extern hf hname hb hn he]
 have e:(add64Entry [Value.int .u64 (n:Int),.int .u64 (m:Int),.int .u64 (k:Int)].toArray).run P w = .ok (.tuple #[.int .u64 (((n+m+k) % 18446744073709551616:Nat):Int),.int .u64 (((n+m+k) / 18446744073709551616:Nat):Int)]) w:=by
  have:k=0∨k=1:=by omega
  rcases this with rfl | rfl <;> rfl
 rw [e];simp [Result.andThen]
end Go.Q
end
section
namespace Go.V
open Go.Q Go.Q.Yo
noncomputable section
def Tt:TT:=⟨ofT Go.Q.Yo.tab,1842755090244906331961628157315658222151817894276949080480649462462198737292673129838493678441314555309977793253666050116853892202218116042462259809426015625506979840,649037107316853453566312041152512,[(469,.ibs),(555,.add)]⟩
def Ff:FT:=ofL Go.Proofs.Tryz.prog.funcs.toList 0 (mt _ _)
def I1:ql0:=fun f=>match f with
 | 130=>some qnn
 | 322=>some qn2
 | _=>none
def c1:zbk:=calls I1 Tt Ff 40
def I:ql0:=fun f=>match f with
 | 71=>some qqm
 | 130=>some qnn
 | 322=>some qn2
 | 216=>some fun vs h K=>Bool.rec (motive:=fun _=>Rs) (qik c1 (.i .u64) 307 306 26 vs h K) (qhp c1 (.i .u64) 556 306 26 vs h K) (qon 556 vs)
 | 187=>some (qik c1 .s 285 284 9)
 | 385=>some (zwd c1 false zty 456 455 99 5)
 | 293=>some (zwd c1 true zId 392 391 97 2)
 | 290=>some qpv
 | 299=>some (qqy c1)
 | _=>none
theorem zqo:∀ p∈Go.Q.Yo.tab,p.1<768:=fun p hp=>by
 have h:Go.Q.Yo.tab.all (fun p=>Nat.blt p.1 768)=true:=by kernel_rfl
 have:=List.all_eq_true.1 h p hp
 rwa [Nat.blt_eq] at this
theorem qsq {i:TI} (h:tlk Go.Q.Yo.tab 29=some i):KD Go.Proofs.Tryz.prog 29 i.z:=by
 obtain⟨j,hj,h1,h2,h3,h4,h5⟩:∃ j,tlk Go.Q.Yo.tab 29=some j/\Go.Proofs.Tryz.prog.keyTypeAt 20 29=true/\Go.Proofs.Tryz.prog.tiled 20 29=true/\(keyOf Go.Proofs.Tryz.prog 29 (.agg j.z.toArray)).isSome=true/\(match Go.Proofs.Tryz.prog.underlying 29 with | some (.array _ _) | some (.struct _)=>true | _=>false)=true/\Go.Proofs.Tryz.prog.eqGuardType Go.Proofs.Tryz.prog.depth 29=false:=⟨_,rfl,by kernel_rfl,by kernel_rfl,by kernel_rfl,by kernel_rfl,by kernel_rfl⟩
 rw [hj] at h;cases h;exact⟨⟨20,by decide,h1,h2⟩,h3,h4,h5⟩
theorem qrq {i:TI} (h:tlk Go.Q.Yo.tab 53=some i):KD Go.Proofs.Tryz.prog 53 i.z:=by
 obtain⟨j,hj,h1,h2,h3,h4,h5⟩:∃ j,tlk Go.Q.Yo.tab 53=some j/\Go.Proofs.Tryz.prog.keyTypeAt 20 53=true/\Go.Proofs.Tryz.prog.tiled 20 53=true/\(keyOf Go.Proofs.Tryz.prog 53 (.agg j.z.toArray)).isSome=true/\(match Go.Proofs.Tryz.prog.underlying 53 with | some (.array _ _) | some (.struct _)=>true | _=>false)=true/\Go.Proofs.Tryz.prog.eqGuardType Go.Proofs.Tryz.prog.depth 53=false:=⟨_,rfl,by kernel_rfl,by kernel_rfl,by kernel_rfl,by kernel_rfl,by kernel_rfl⟩
 rw [hj] at h;cases h;exact⟨⟨20,by decide,h1,h2⟩,h3,h4,h5⟩
theorem qsd {i:TI} (h:tlk Go.Q.Yo.tab 97=some i):KD Go.Proofs.Tryz.prog 97 i.z:=by
 obtain⟨j,hj,h1,h2,h3,h4,h5⟩:∃ j,tlk Go.Q.Yo.tab 97=some j/\Go.Proofs.Tryz.prog.keyTypeAt 20 97=true/\Go.Proofs.Tryz.prog.tiled 20 97=true/\(keyOf Go.Proofs.Tryz.prog 97 (.agg j.z.toArray)).isSome=true/\(match Go.Proofs.Tryz.prog.underlying 97 with | some (.array _ _) | some (.struct _)=>true | _=>false)=true/\Go.Proofs.Tryz.prog.eqGuardType Go.Proofs.Tryz.prog.depth 97=false:=⟨_,rfl,by kernel_rfl,by kernel_rfl,by kernel_rfl,by kernel_rfl,by kernel_rfl⟩
 rw [hj] at h;cases h;exact⟨⟨20,by decide,h1,h2⟩,h3,h4,h5⟩
theorem qog {i:TI} (h:tlk Go.Q.Yo.tab 270=some i):KD Go.Proofs.Tryz.prog 270 i.z:=by
 obtain⟨j,hj,h1,h2,h3,h4,h5⟩:∃ j,tlk Go.Q.Yo.tab 270=some j/\Go.Proofs.Tryz.prog.keyTypeAt 20 270=true/\Go.Proofs.Tryz.prog.tiled 20 270=true/\(keyOf Go.Proofs.Tryz.prog 270 (.agg j.z.toArray)).isSome=true/\(match Go.Proofs.Tryz.prog.underlying 270 with | some (.array _ _) | some (.struct _)=>true | _=>false)=true/\Go.Proofs.Tryz.prog.eqGuardType Go.Proofs.Tryz.prog.depth 270=false:=⟨_,rfl,by kernel_rfl,by kernel_rfl,by kernel_rfl,by kernel_rfl,by kernel_rfl⟩
 rw [hj] at h;cases h;exact⟨⟨20,by decide,h1,h2⟩,h3,h4,h5⟩
theorem qok {i:TI} (h:tlk Go.Q.Yo.tab 410=some i):KD Go.Proofs.Tryz.prog 410 i.z:=by
 obtain⟨j,hj,h1,h2,h3,h4,h5⟩:∃ j,tlk Go.Q.Yo.tab 410=some j/\Go.Proofs.Tryz.prog.keyTypeAt 20 410=true/\Go.Proofs.Tryz.prog.tiled 20 410=true/\(keyOf Go.Proofs.Tryz.prog 410 (.agg j.z.toArray)).isSome=true/\(match Go.Proofs.Tryz.prog.underlying 410 with | some (.array _ _) | some (.struct _)=>true | _=>false)=true/\Go.Proofs.Tryz.prog.eqGuardType Go.Proofs.Tryz.prog.depth 410=false:=⟨_,rfl,by kernel_rfl,by kernel_rfl,by kernel_rfl,by kernel_rfl,by kernel_rfl⟩
 rw [hj] at h;cases h;exact⟨⟨20,by decide,h1,h2⟩,h3,h4,h5⟩
theorem qnk {i:TI} (h:tlk Go.Q.Yo.tab 502=some i):KD Go.Proofs.Tryz.prog 502 i.z:=by
 obtain⟨j,hj,h1,h2,h3,h4,h5⟩:∃ j,tlk Go.Q.Yo.tab 502=some j/\Go.Proofs.Tryz.prog.keyTypeAt 20 502=true/\Go.Proofs.Tryz.prog.tiled 20 502=true/\(keyOf Go.Proofs.Tryz.prog 502 (.agg j.z.toArray)).isSome=true/\(match Go.Proofs.Tryz.prog.underlying 502 with | some (.array _ _) | some (.struct _)=>true | _=>false)=true/\Go.Proofs.Tryz.prog.eqGuardType Go.Proofs.Tryz.prog.depth 502=false:=⟨_,rfl,by kernel_rfl,by kernel_rfl,by kernel_rfl,by kernel_rfl,by kernel_rfl⟩
 rw [hj] at h;cases h;exact⟨⟨20,by decide,h1,h2⟩,h3,h4,h5⟩
theorem qn9 {i:TI} (h:tlk Go.Q.Yo.tab 549=some i):KD Go.Proofs.Tryz.prog 549 i.z:=by
 obtain⟨j,hj,h1,h2,h3,h4,h5⟩:∃ j,tlk Go.Q.Yo.tab 549=some j/\Go.Proofs.Tryz.prog.keyTypeAt 20 549=true/\Go.Proofs.Tryz.prog.tiled 20 549=true/\(keyOf Go.Proofs.Tryz.prog 549 (.agg j.z.toArray)).isSome=true/\(match Go.Proofs.Tryz.prog.underlying 549 with | some (.array _ _) | some (.struct _)=>true | _=>false)=true/\Go.Proofs.Tryz.prog.eqGuardType Go.Proofs.Tryz.prog.depth 549=false:=⟨_,rfl,by kernel_rfl,by kernel_rfl,by kernel_rfl,by kernel_rfl,by kernel_rfl⟩
 rw [hj] at h;cases h;exact⟨⟨20,by decide,h1,h2⟩,h3,h4,h5⟩
theorem qd3z {m t a b c:Nat} (hm:m<2^a*2^b*2^c) (h:Nat.testBit m t=true):t<a+b+c:=qdh (by rw [Nat.pow_add,Nat.pow_add]; exact hm) h
theorem qgo {t:Nat} (h:Nat.testBit 1842755090244906331961628157315658222151817894276949080480649462462198737292673129838493678441314555309977793253666050116853892202218116042462259809426015625506979840 t=true):t=29∨t=53∨t=97∨t=270∨t=410∨t=502∨t=549:=by
 have hl:t<600:=qd3z (a:=200) (b:=200) (c:=200) (by decide) h;have all:∀ t,t<600->Nat.testBit 1842755090244906331961628157315658222151817894276949080480649462462198737292673129838493678441314555309977793253666050116853892202218116042462259809426015625506979840 t=true->t=29∨t=53∨t=97∨t=270∨t=410∨t=502∨t=549:=by decide
 exact all t hl h
theorem qe1 {t:Nat} (h:Nat.testBit 649037107316853453566312041152512 t=true):t=109:=by
 have hl:t<600:=qd3z (a:=200) (b:=200) (c:=200) (by decide) h;have all:∀ t,t<600->Nat.testBit 649037107316853453566312041152512 t=true->t=109:=by decide
 exact all t hl h
theorem qo5:∃ d el i,Go.Proofs.Tryz.prog.underlying 109=some (.chan d el)/\tlk Go.Q.Yo.tab el=some i/\i.b<=1048576:=by
 obtain⟨i,hi,hb⟩:∃ i,tlk Go.Q.Yo.tab 438=some i/\i.b<=1048576:=⟨_,rfl,by decide⟩
 exact⟨.both,438,i,by kernel_rfl,hi,hb⟩
theorem ql3:TbOk Go.Proofs.Tryz.prog Go.Q.Yo.tab Tt where
 ok:=Go.Q.Yo.tok
 tk:=fun t i h=>zsg zqo h
 kl:=fun t i hk h=>by
  have h':=zsg zqo h;rcases qgo hk with rfl | rfl | rfl | rfl | rfl | rfl | rfl
  ·exact qsq h'
  ·exact qrq h'
  ·exact qsd h'
  ·exact qog h'
  ·exact qok h'
  ·exact qnk h'
  ·exact qn9 h'
 xs:=fun p hp=>by
  have hp':p=(469,XK.ibs)∨p=(555,XK.add):=by simpa [Tt] using hp
  rcases hp' with rfl | rfl
  ·exact fun s c w=>qe5 s c Go.Proofs.Tryz.func469 (by kernel_rfl) (by kernel_rfl) (by kernel_rfl) (by kernel_rfl) w
  ·exact fun x y c w h=>qgb x y c Go.Proofs.Tryz.func555 (by kernel_rfl) (by kernel_rfl) (by kernel_rfl) (by kernel_rfl) h w
 ch:=fun t h=>by
  have:=qe1 h;subst this;exact qo5
theorem qi6:FtOk Go.Proofs.Tryz.prog Ff where
 mo:=by kernel_rfl
 fn:=fun f fn h=>by
  have hl:Go.Proofs.Tryz.prog.funcs.toList.length<=768:=by
   have:Nat.ble Go.Proofs.Tryz.prog.funcs.toList.length 768=true:=by kernel_rfl
   exact Nat.le_of_ble_eq_true this
  have h1:=qhy hl h
  have h2:(Go.Proofs.Tryz.prog.funcs.toList.all fun fn=>(fn.name == "runtime.NumGoroutine")==false)=true:=by kernel_rfl
  refine⟨by simpa using h1,?_⟩;have:=List.all_eq_true.1 h2 fn (List.mem_of_getElem? h1);simpa using this
theorem qnj:IOk Go.Proofs.Tryz.prog I1:=fun f g h=>by
 unfold I1 at h;split at h
 ·cases h;exact zwt
 ·cases h;exact zx6
 ·cases h
theorem zzs:za7 Go.Proofs.Tryz.prog c1:=zpl ql3 qi6 qnj 40
theorem qss:IOk Go.Proofs.Tryz.prog I:=fun f g h=>by
 unfold I at h;split at h
 ·cases h;exact qf6
 ·cases h;exact zwt
 ·cases h;exact zx6
 ·cases h;exact qa8 zzs
 ·cases h;exact qcn zzs
 ·cases h;exact qa2 zzs
 ·cases h;exact qcp zzs
 ·cases h;exact qfc
 ·cases h;exact qg4 zzs
 ·cases h
theorem qhn (n:Nat):za7 Go.Proofs.Tryz.prog (calls I Tt Ff n):=zpl ql3 qi6 qss n
def h0 (K:HS->Rs):Rs:=wt 3 rcA 0 (mt AV 3) fun c=>(up DH 0).x Rs (mt _ _) (some (.c ⟨64,false,false,51,1,3,c⟩)) fun t=>wt 3 qfA 0 (mt AV 3) fun c=>(up DH 1).x Rs t (some (.c ⟨32,false,false,3,1,3,c⟩)) fun t=>K ⟨16,t⟩
def P0:Ph:=fun b=>if b<GN then some ⟨b,0,0⟩ else none
theorem qn7 {K:HS->Rs} (h:h0 K=true):∃ s,K s=true/\∀ hc,R0 hc->Ch.Q0 hc->Rel hc P0 s hc:=by
 unfold h0 at h;rw [zoc,up_eq,zoc,up_eq] at h;refine⟨_,h,fun hc r q=>?_⟩
 have only:∀ b bl,b<4 ^ DH->gt DH b (st DH 1 (some (.c ⟨32,false,false,3,1,3,sts 3 qfA 0 (mt AV 3)⟩)) (st DH 0 (some (.c ⟨64,false,false,51,1,3,sts 3 rcA 0 (mt AV 3)⟩)) (mt Blk DH)))=some bl ->
   (b=1/\bl = .c ⟨32,false,false,3,1,3,sts 3 qfA 0 (mt AV 3)⟩)∨(b=0/\bl = .c ⟨64,false,false,51,1,3,sts 3 rcA 0 (mt AV 3)⟩):=fun b bl l e=>by
  by_cases h1:b=1
  ·subst h1;rw [zht] at e;cases e;exact .inl ⟨rfl,rfl⟩
  ·rw [zar _ _ _ _ _ (by decide) l (Ne.symm h1)] at e
   by_cases h2:b=0
   ·subst h2;rw [zht] at e;cases e;exact .inr ⟨rfl,rfl⟩
   ·rw [zar _ _ _ _ _ (by decide) l (Ne.symm h2),zmk] at e;cases e
 have pc:∀ {vs:List AV} {us:List Value} {b:Nat} {el:Nat},(∀ φ,cvs φ vs=some us)->(∀ u∈us,u.oneCell'=true)->vs.length<=64->CellsAt hc ⟨b,0,none⟩ us->b<hc.size->RelB P0 ⟨vs.length,false,false,el,1,3,sts 3 vs 0 (mt AV 3)⟩ ⟨b,0,0⟩ hc:=by
  intro vs us b el hv h1 hl C hb;refine⟨hb,by show vs.length<=4 ^ 3;exact hl,by show vs.length<=CB.room _ _;unfold CB.room;rw [if_neg (by simp)];exact Nat.le_refl _,fun j hj=>?_,fun hw=>by cases hw⟩;have hj':j<vs.length:=hj
  have hg:gt 3 j (sts 3 vs 0 (mt AV 3))=some vs[j]:=by
   rw [zl3 _ _ _ _ (by rw [Nat.zero_add];exact hl) (Nat.lt_of_lt_of_le hj' hl),if_pos ⟨Nat.zero_le _,by omega⟩,Nat.sub_zero,List.getElem?_eq_getElem hj']
  obtain⟨u,hu,hc'⟩:=zdn vs us (hv P0) j _ (List.getElem?_eq_getElem hj');refine⟨_,u,hg,hc',h1 u (List.mem_of_getElem? hu),?_⟩;have:=C j u hu;rw [add_mk] at this;exact this
 refine⟨fun b x e=>?_,(by show 16<=4 ^ DH;decide),fun b h1 h2=>?_,fun b hb=>by simp [P0,hb],fun b bl x hb hgt e=>?_,fun b b' bl1 bl2 x x' hb hb' g1 g2 e1 e2 hne hw=>?_,Nat.le_refl _,fun _ _=>rfl⟩
 ·unfold P0 at e
  split at e
  ·rename_i hb;exact hb
  ·cases e
 ·cases hq:gt DH b (st DH 1 (some (.c ⟨32,false,false,3,1,3,sts 3 qfA 0 (mt AV 3)⟩)) (st DH 0 (some (.c ⟨64,false,false,51,1,3,sts 3 rcA 0 (mt AV 3)⟩)) (mt Blk DH))) with
  | none=>rfl
  | some y =>
   have h1':16<=b:=h1;rcases only b y h2 hq with⟨e,_⟩ | ⟨e,_⟩ <;> omega
 ·rcases only b bl hb hgt with⟨rfl,rfl⟩ | ⟨rfl,rfl⟩
  ·cases e
   exact⟨pc (vs:=qfA) (el:=3) (fun φ=>zzk qfN) (zt3 _ _) (by decide) q q.lt,fun h=>by cases h⟩
  ·cases e
   exact⟨pc (vs:=rcA) (el:=51) (fun φ=>zr5 rcN) (zs6 rcL) (by decide) r r.pos,fun h=>by cases h⟩
 ·rcases only b bl1 hb g1 with⟨_,rfl⟩ | ⟨_,rfl⟩ <;> cases hw
end
end Go.V
end
section
set_option maxRecDepth 1000000
set_option maxHeartbeats 0
namespace Go.V
open Go.Q Go.Q.Yo
noncomputable section
def run:Bool:=h0 fun h=>calls I Tt Ff 100 4 [] h fun v h=>dB.x v fun b=>b
theorem qby:run=true:=by kernel_rfl
theorem awake_ok {h:zaa} (r:R0 h) (q:Ch.Q0 h):CallsH Go.Proofs.Tryz.prog 4 #[] h fun u h'=>u = .bool true/\Ext h.size h h':=by
 obtain⟨s,H,R⟩:=qn7 qby;obtain⟨_,v,h1,hb,hc⟩:=qhn 100 _ _ _ _ H;obtain⟨x,rfl,hx⟩:=zu7 hb;subst hx;refine(hc h P0 h [] (R h r q) rfl).mono ?_;rintro u h' ⟨φ',X,R',hu⟩
 cases hu
 exact⟨rfl,R'.sz,R'.old⟩
end
end Go.V
end
section
namespace Go.Q.Yo
open Go.Q
def zd0 (k:Bool->zaa->Prop) (h:zaa):Prop:=R0 h/\Ch.Q0 h/\∀ h',Ext h.size h h'->k true h'
theorem zd9:zad Go.Proofs.Tryz.prog 4:=⟨_,Go.Proofs.Tryz.func4,by kernel_rfl,by kernel_rfl⟩
theorem zdm (k:Bool->zaa->Prop) (h:zaa) (H:zd0 k h):CallsH Go.Proofs.Tryz.prog 4 #[] h (fun v h'=>∃ r:Bool,v = .bool r/\k r h') :=
 (Go.V.awake_ok H.1 H.2.1).mono (by rintro u h' ⟨rfl,X⟩;exact⟨true,rfl,H.2.2 h' X⟩)
end Go.Q.Yo
end
section
namespace Go.Q.Yo
open Go.Proofs.Tryz
def zdt (t62_2:Bool) (k:(Bool)->zaa->Prop) (h_2:zaa):Prop :=
  k t62_2 h_2
def zco (t59_1:Bool) (k:(Bool)->zaa->Prop) (h_1:zaa):Prop :=
  if t59_1 then (zd0  (fun(r14:Bool) h15=>zdt r14 k h15) h_1) else (zdt false k h_1)
def zbu (t12_3:Bool) (k:(Bool)->zaa->Prop) (h_3:zaa):Prop :=
  k t12_3 h_3
def zfe (p0:Int) (p1:Int) (p2:Int) (p3:List Int) (p4:Slc) (p5:List Int) (k:(Bool)->zaa->Prop) (h:zaa):Prop :=
  ∃(b1:Nat) (h2:zaa),b1=h.size/\h2=h.push (.cells (arr 32 .u8 p3).toArray 23)/\(∃(b3:Nat) (h4:zaa),b3=h2.size/\h4=h2.push (.cells (arr 32 .u8 p5).toArray 23)/\(if ((decide (p1 > 8))||(decide ((p4.len:Int) > 100))) then (zd0  (fun(r5:Bool) h6=>k r5 h6) h4) else (∃ v7:List Int,CellsAt h4 (⟨b1,0,none⟩:Addr) (arr 32 .u8 v7)/\(∃ v8:List Int,CellsAt h4 (⟨b3,0,none⟩:Addr) (arr 32 .u8 v8)/\(zlb p0 p1 p2 v7 p4 v8 (fun(r9:S_api_Mem × Int) h10=>∃(b11:Nat) (h12:zaa),b11=h10.size/\h12=h10.push (.cells (S_api_Mem.cs (⟨0,0,0,0,0,(⟨0,([]:List Int)⟩:S_api_Share),([]:List Int),0,0,0,0,(⟨none,0,0⟩:Slc),(⟨none,0,0⟩:Slc),(⟨none,0,0⟩:Slc),(⟨none,0,0⟩:Slc),0⟩:S_api_Mem)).toArray 34)/\(∃ h13:zaa,WrsAt h12 (⟨b11,0,none⟩:Addr) 79/\h13=zak h12 (⟨b11,0,none⟩:Addr) 0 (S_api_Mem.cs r9.1)/\(if (((((decide (p1<1))||(decide (p0<0)))||(decide (p0>=p1)))||(decide (p2<1)))||(decide (p2 > p1))) then (if (r9.2==1) then (∃ v16:S_api_Mem,CellsAt h13 (⟨b11,0,none⟩:Addr) (S_api_Mem.cs v16)/\(zgo v16 (⟨0,0,0,0,0,(⟨0,([]:List Int)⟩:S_api_Share),([]:List Int),0,0,0,0,(⟨none,0,0⟩:Slc),(⟨none,0,0⟩:Slc),(⟨none,0,0⟩:Slc),(⟨none,0,0⟩:Slc),0⟩:S_api_Mem) (fun(r17:Bool) h18=>zco r17 k h18) h13)) else (zco false k h13)) else (if (r9.2==0) then (∃ v19:S_api_Mem,CellsAt h13 (⟨b11,0,none⟩:Addr) (S_api_Mem.cs v19)/\(∃ v20:List Int,CellsAt h13 (⟨b1,0,none⟩:Addr) (arr 32 .u8 v20)/\(∃ v21:List Int,CellsAt h13 (⟨b3,0,none⟩:Addr) (arr 32 .u8 v21)/\(zi8 p0 p1 p2 v20 p4 v21 (fun(r22:S_api_Mem) h23=>CellsAt h23 (⟨b11,0,none⟩:Addr) (S_api_Mem.cs v19)/\(zgo v19 r22 (fun(r25:Bool) h26=>if r25 then (zd0  (fun(r27:Bool) h28=>zbu r27 k h28) h26) else (zbu false k h26)) h23)) h13)))) else (if false then (zd0  (fun(r29:Bool) h30=>zbu r29 k h30) h13) else (zbu false k h13)))))) h4)))))
theorem law32_NodeInits_ref (p0 p1 p2 p3 p4 p5 k h) (H:zfe p0 p1 p2 p3 p4 p5 k h):CallsH prog 3 #[.int .i64 p0,.int .i64 p1,.int .i64 p2,.agg (arr 32 .u8 p3).toArray,Slc.v p4,.agg (arr 32 .u8 p5).toArray] h (fun v h'=>∃ r:Bool,v = .bool r/\k r h'):=by
 refine fE func3 fun w0=>?_;refine zF [0,1,2,3,4,5] (zQ ?_);refine wX H fun b1 h2 H=>?_;refine wX H fun b3 h4 H=>?_;refine w1 tok (zE (zS (zQ ?_)));refine w3 tok ?_;refine vU 4 [0,1,2,4,9,11] [(21,.bool ((decide (p1 > 8))||(decide ((p4.len:Int) > 100))))] ?_ ?_;refine zE ?_;refine zI H ?_ ?_ <;> intro H
 refine zQ ?_;refine wC zd9 (zdm  _ _ H) fun r5 h6 H=>?_;refine w1 tok (zE (zF [12] (zT (yT ?_))));exact x_ret _ rfl _ rfl ⟨r5,rfl,H⟩;refine zK (zX (zQ (w3 tok ?_)));refine wLa tok H fun v7 H=>?_;refine w1 tok ?_;refine wLa tok H fun v8 H=>?_;refine wC O5 (R5 _ _ _ _ _ _ _ _ H) fun r9 h10 H=>?_;refine w3 tok ?_;refine wB tok H fun b11 h12 H=>?_;refine wTa tok H fun h13 H=>?_;refine w1 tok (zE (zF [0,1,2,4,9,11,13,14] (zS (zQ ?_))));refine w3 tok ?_;refine vU 3 [0,1,2,4,9,11,13,14] [(38,.bool ((decide (p1<1))||(decide (p0<0))))] ?_ ?_;refine w1 tok ?_;refine vU 4 [0,1,2,4,9,11,13,14] [(43,.bool (((decide (p1<1))||(decide (p0<0)))||(decide (p0>=p1))))] ?_ ?_;refine w1 tok ?_;refine vU 3 [0,1,2,4,9,11,13,14] [(47,.bool ((((decide (p1<1))||(decide (p0<0)))||(decide (p0>=p1)))||(decide (p2<1))))] ?_ ?_;refine w1 tok ?_;refine vU 4 [0,1,2,4,9,11,13,14] [(52,.bool (((((decide (p1<1))||(decide (p0<0)))||(decide (p0>=p1)))||(decide (p2<1)))||(decide (p2 > p1))))] ?_ ?_;refine zE ?_;refine zI H ?_ ?_ <;> intro H
 refine zQ (w3 tok ?_);refine vJ 4 (α:=Bool) [] (fun(s:Bool)=>[(59,.bool s)]) (fun(s:Bool) h=>zco s k h) ?_ ?_;rintro t59_1 h_1 H;refine vF [59] ?_;refine w1 tok ?_;refine vJ 2 (α:=Bool) [] (fun(s:Bool)=>[(62,.bool s)]) (fun(s:Bool) h=>zdt s k h) ?_ ?_;rintro t62_2 h_2 H;refine vF [62] ?_;refine w1 tok (zE (zT (yT ?_)));exact x_ret _ rfl _ rfl ⟨t62_2,rfl,H⟩;refine vI 60 H ?_ ?_ <;> intro H
 refine wC zd9 (zdm  _ _ H) fun r14 h15 H=>?_;refine w1 tok ?_;exact wJ r14 H;refine wS (w1 tok ?_);exact wJ false H;refine vI 55 H ?_ ?_ <;> intro H
 refine wLa tok H fun v16 H=>?_;refine wY (zer tok rfl rfl rfl rfl rfl) ?_;refine wC O6 (R6 _ _ _ _ H) fun r17 h18 H=>?_;refine w1 tok ?_;exact wJ r17 H;refine wS (wS (wS (w1 tok ?_)));exact wJ false H;refine zK (zX ?_);refine zJ (α:=Bool) [] (fun(s:Bool)=>[(12,.bool s)]) (fun(s:Bool) h=>zbu s k h) ?_ ?_;rintro t12_3 h_3 H;refine zF [12] (zT ?_);exact x_ret _ rfl _ rfl ⟨t12_3,rfl,H⟩;refine gB [0,1,2,4,9,11,13,14] ?_;refine gT 0 [14] tok ?_;refine gT 1 [63] tok ?_;refine gT 2 [64] tok ?_;refine gI 65 H (fun hb H=>?_) (fun hb H=>?_);obtain⟨v19,hv19,H⟩:=H;refine gL 3 [13,65] rfl (zhv tok rfl rfl rfl rfl rfl hv19) ?_;refine gT 4 [0,65] tok ?_;refine gT 5 [1,65] tok ?_;refine gT 6 [2,65] tok ?_;obtain⟨v20,hv20,H⟩:=H;refine gL 7 [9,65] rfl (zhv tok rfl rfl rfl rfl rfl hv20) ?_;refine gT 8 [4,65] tok ?_;obtain⟨v21,hv21,H⟩:=H;refine gL 9 [11,65] rfl (zhv tok rfl rfl rfl rfl rfl hv21) ?_;refine gCr 10 [65,67,68,69,70,71,72] O7 (R7 _ _ _ _ _ _ _ _ H) fun r22 h23 H=>?_;obtain⟨hy24,H⟩:=H;refine gR rfl (zhv tok rfl rfl rfl rfl rfl hy24) ?_;refine gZ0 ?_;refine gC 11 [65,66,73] O6 (R6 _ _ _ _ H) fun r25 h26 H=>?_;refine gT 12 [65,74] tok ?_;refine gT 13 [75] tok ?_;refine gI 76 H (fun hb H=>?_) (fun hb H=>?_);refine gC 14 [76] zd9 (zdm  _ _ H) fun r27 h28 H=>?_;refine gT 15 [76,77] tok ?_;refine gT 16 [78] tok ?_;refine gZ ?_;exact xJ r27 H;refine gS 14 [76] ?_;refine gT 15 [76,77] tok ?_;refine gT 16 [78] tok ?_;refine gZ ?_;exact xJ false H;refine gS 3 [13,65] ?_;refine gS 4 [0,65] ?_;refine gS 5 [1,65] ?_;refine gS 6 [2,65] ?_;refine gS 7 [9,65] ?_;refine gS 8 [4,65] ?_;refine gS 9 [11,65] ?_;refine gS 10 [65,67,68,69,70,71,72] ?_;refine gS 11 [65,66,73] ?_;refine gT 12 [65,74] tok ?_;refine gT 13 [75] tok ?_;refine gI 76 H (fun hb H=>?_) (fun hb H=>?_);refine gC 14 [76] zd9 (zdm  _ _ H) fun r29 h30 H=>?_;refine gT 15 [76,77] tok ?_;refine gT 16 [78] tok ?_;refine gZ ?_;exact xJ r29 H;refine gS 14 [76] ?_;refine gT 15 [76,77] tok ?_;refine gT 16 [78] tok ?_;refine gZ ?_;exact xJ false H;refine vG (d:=48) (fun hb=>?_) (fun hb=>?_);refine wS (wS (wS (w1 tok ?_)));refine vK ?_;exact congrArg (fun b=>some (Value.bool b)) (zy2 hb);refine w4 tok ?_;refine vK ?_;exact congrArg (fun b=>some (Value.bool b)) (zzn hb);refine vG (d:=44) (fun hb=>?_) (fun hb=>?_);refine wS (wS (w1 tok ?_));refine vK ?_;exact congrArg (fun b=>some (Value.bool b)) (zy2 hb);refine w3 tok ?_;refine vK ?_;exact congrArg (fun b=>some (Value.bool b)) (zzn hb);refine vG (d:=39) (fun hb=>?_) (fun hb=>?_);refine wS (wS (wS (w1 tok ?_)));refine vK ?_;exact congrArg (fun b=>some (Value.bool b)) (zy2 hb);refine w4 tok ?_;refine vK ?_;exact congrArg (fun b=>some (Value.bool b)) (zzn hb);refine vG (d:=35) (fun hb=>?_) (fun hb=>?_);refine wS (wS (w1 tok ?_));refine vK ?_;exact congrArg (fun b=>some (Value.bool b)) (zy2 hb);refine w3 tok ?_;refine vK ?_;exact congrArg (fun b=>some (Value.bool b)) (zzn hb);refine vG (d:=17) (fun hb=>?_) (fun hb=>?_);refine wS (wS (wS (w1 tok ?_)));refine vK ?_;exact congrArg (fun b=>some (Value.bool b)) (zy2 hb);refine w4 tok ?_;refine vK ?_;exact congrArg (fun b=>some (Value.bool b)) (zzn hb)
end Go.Q.Yo
end
section
namespace Go.Q.Yo
open Go.Q.Sg
theorem qdi:S_api_Mem.cs (zio 0 0 0 0 [] [] zj8)=S_api_Mem.cs (zio 0 0 0 0 z32 z32 zj8):=by
 rw [zhp,zhp];have h1:S_api_Share.cs ⟨0,[]⟩=S_api_Share.cs ⟨0,z32⟩:=rfl;have h2:arr 32 .u8 []=arr 32 .u8 z32:=rfl;rw [h1,h2]
theorem NodeInits_ok {me n t:Int} {s p5 cs:List Int} {p4:Slc} {k:Bool->zaa->Prop} {h:zaa} (r:R0 h) (q:Ch.Q0 h) (hm:-9223372036854775808<=me/\me<9223372036854775808) (hn:-9223372036854775808<=n/\n<9223372036854775808) (ht:-9223372036854775808<=t/\t<9223372036854775808)
  (ls:s.length=32) (sB':isB s) (l5:p5.length=32) (C:SlcAt h p4 (b8 cs)) (lc:p4.len=cs.length) (cB:isB cs) (H:∀ h',Ext h.size h h'->k true h'):zfe me n t s p4 p5 k h:=by
 have r0:=r.pos;unfold zfe;refine bx0 fun h2 P2 X2=>bx0 fun h4 P4 X4=>?_;have z2:=X2.size;have z4:=X4.size;have b2:=P2.lt;have b4:=P4.lt;have X04:Ext h.size h h4:=X2.trans (X4.mono z2);have S4:=P2.ext X4 b2
 have aw:∀ {h'} {k':Bool->zaa->Prop},Ext h.size h h'->(∀ h'',Ext h.size h h''->k' true h'')->zd0 k' h':=fun X K =>
  ⟨r.ext X r0,q.ext X q.lt,fun h'' Y=>K h'' (X.trans (Y.mono X.size))⟩
 by_cases c:n > 8∨(p4.len:Int) > 100
 ·rw [if_pos (by rw [Bool.or_eq_true,decide_eq_true_eq,decide_eq_true_eq];exact c)]
  exact aw X04 H
 ·rw [if_neg (by rw [Bool.or_eq_true,decide_eq_true_eq,decide_eq_true_eq];exact c)]
  refine⟨s,CellsAt.of_blk S4,p5,CellsAt.of_blk P4,?_⟩;refine qfk (r.ext X04 r0) hm hn ht (by omega) ls sB' l5 (C.ext X04) lc cB (by omega) (fun g h10 X10=>?_) (fun g h10 s' L X10=>?_)
  ·have Y10:Ext h.size h h10:=X04.trans (X10.mono X04.size)
   have y10:=Y10.size;refine bx (cs:=S_api_Mem.cs (zio 0 0 0 0 [] [] zj8)) rfl (Nat.le_of_eq (zb0 0 0 0 0 [] [] zj8).symm) fun h13 P13 X13=>?_
   have cc:((((decide (n<1)||decide (me<0))||decide (me>=n))||decide (t<1))||decide (t > n))=true:=by
    simp only [Bool.or_eq_true,decide_eq_true_eq];unfold good at g;omega
   rw [if_pos cc,if_pos (by decide)];refine⟨zio 0 0 0 0 [] [] zj8,CellsAt.of_blk P13,?_⟩;have W:=zxf (me:=0) (n:=0) (t:=0) (x:=0) (y:=z32) (p:=z32) (c:=chT []) (by decide) (by decide) (by decide) (by decide) qbl (by decide) qbl (by decide) (fun q hq=>by cases hq) (by decide);have A:∀ h',MemAt h' (zio 0 0 0 0 z32 z32 zj8) (zvz 0 0 0 0 z32 z32 (chT [])):=fun h'=>ztg (vs:=[]) ⟨rfl,fun i x hx=>by simp at hx⟩;refine qd4 qdi qdi (A _) (A _) W (zsq W (by decide)) fun h18 X18=>?_;unfold zco;rw [if_pos rfl];have Y13:Ext h.size h h13:=Y10.trans (X13.mono y10);exact aw (Y13.trans (X18.mono Y13.size)) H
  ·have Y10:Ext h.size h h10:=X04.trans (X10.mono X04.size)
   have y10:=Y10.size;obtain⟨V,eV⟩:∃ V,V=zio me n t ((me.toNat+1:Nat):Int) (shY (me.toNat+1) cs s t.toNat) (zlf s proofB) s':=⟨_,rfl⟩
   have lV:(S_api_Mem.cs V).length=79:=by rw [eV];exact zb0 _ _ _ _ _ _ _
   rw [← eV];refine bx (cs:=S_api_Mem.cs V) (by rw [lV];exact(zb0 0 0 0 0 [] [] zj8).symm) (Nat.le_of_eq (zb0 0 0 0 0 [] [] zj8).symm) fun h13 P13 X13=>?_
   have cc:¬ (((((decide (n<1)||decide (me<0))||decide (me>=n))||decide (t<1))||decide (t > n))=true):=by
    simp only [Bool.or_eq_true,decide_eq_true_eq];unfold good at g;omega
   rw [if_neg cc,if_pos (by simp)];have z10:=X10.size;have z13:=X13.size;have X413:Ext h4.size h4 h13:=X10.trans (X13.mono z10);refine⟨V,CellsAt.of_blk P13,s,CellsAt.of_blk (S4.ext X413 (by omega)),p5,CellsAt.of_blk (P4.ext X413 b4),?_⟩;have Y13:Ext h.size h h13:=Y10.trans (X13.mono y10);refine qaj (by omega) ls sB' l5 (C.ext Y13) lc cB (by omega) g fun h23 s'' L' X23=>?_;refine⟨CellsAt.of_blk (P13.ext X23 P13.lt),?_⟩;obtain⟨g1,g2,g3,g4,g5⟩:=g;have W:=zxf (me:=me) (n:=n) (t:=t) (x:=((me.toNat+1:Nat):Int)) (y:=shY (me.toNat+1) cs s t.toNat) (p:=zlf s proofB) (c:=chT (chs me p5 zfl (fP me) n.toNat)) hm hn ht (by omega) (qor cB sB') (zs2 _ _ _ _) (qdl _ _) (ze5 _ _) qea (by rw [List.length_map,zcg];omega);have A1:=ztg (me:=me) (n:=n) (t:=t) (x:=((me.toNat+1:Nat):Int)) (y:=shY (me.toNat+1) cs s t.toNat) (p:=zlf s proofB) ((L.ext X13).ext X23);have A2:=ztg (me:=me) (n:=n) (t:=t) (x:=((me.toNat+1:Nat):Int)) (y:=shY (me.toNat+1) cs s t.toNat) (p:=zlf s proofB) L';rw [eV];refine qd4 rfl rfl A1 A2 W (zsq W (by rw [List.length_map,zcg];omega)) fun h26 X26=>?_;rw [if_pos rfl];have Y23:Ext h.size h h23:=Y13.trans (X23.mono Y13.size);exact aw (Y23.trans (X26.mono Y23.size)) H
end Go.Q.Yo
end

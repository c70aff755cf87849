/- A part of the proof of statements of this seat: lemmas, no statement of their own. -/
import Derived.Test.YtmilimlmimckbaaGreatDoorYoZae
import Derived.Test.YtmilimlmimckbaaGreatDoorYoZag
import Derived.Test.YtmilimlmimckbaaGreatDoorYoZaf
import Derived.Test.YtmilimlmimckbaaGreatDoorYoZbj
import Derived.Test.YtmilimlmimckbaaGreatDoorYoZaj
import Derived.Test.YtmilimlmimckbaaGreatDoorYoZah
set_option linter.unusedVariables false
set_option linter.unusedSimpArgs false
set_option maxRecDepth 100000
set_option maxHeartbeats 1000000
section
namespace Go.Q.Yo
def zaw (t2_1:Addr) (t3_1:Addr) (k:(Value)->zaa->Prop) (h_1:zaa):Prop :=
 k (Value.func (.func 466) #[] #[.pointer (some t2_1),.pointer (some t3_1)]) h_1
def zbj (p0:Slc) (p1:Int) (k:(Value)->zaa->Prop) (h:zaa):Prop :=
 ∃(b1:Nat) (h2:zaa),b1=h.size/\h2=h.push (.cells ([Slc.v p0]).toArray 24)/\(∃(b3:Nat) (h4:zaa),b3=h2.size/\h4=h2.push (.cells ([.int .i64 p1]).toArray 3)/\(∃ v5:Int,zab h4 (⟨b3,0,none⟩:Addr)=some (.int .i64 v5)/\(if (decide (v5<1)) then (False) else (zaw (⟨b1,0,none⟩:Addr) (⟨b3,0,none⟩:Addr) k h4))))
theorem zf9:zad Go.Proofs.Tryz.prog 398:=⟨_,Go.Proofs.Tryz.func398,by kernel_rfl,by kernel_rfl⟩
theorem zfm (p0:Slc) (p1:Int) (k:(Value)->zaa->Prop) (h:zaa) (H:zbj p0 p1 k h):CallsH Go.Proofs.Tryz.prog 398 #[Slc.v p0,.int .i64 p1] h (fun v h'=>∃ r:Value,v=r/\k r h'):=by
 refine zg8 (N:=9) Go.Proofs.Tryz.func398 rfl rfl rfl (fun w0=>?_);unfold zbj at H;refine zdy [(0,Slc.v p0),(1,.int .i64 p1)] ⟨rfl,rfl,trivial⟩ ?_;refine zcn ?_;refine zal ?_;obtain⟨b1,h2,eb1,eh2,H⟩:=H;refine w_h (zwz rfl rfl eb1 eh2) rfl rfl ?_;obtain⟨b3,h4,eb3,eh4,H⟩:=H;refine w_h (zwz rfl rfl eb3 eh4) rfl rfl ?_;refine w_p tok rfl rfl rfl ?_;refine zb9 ?_;refine zcr ?_;refine qdx (α:=Unit) (fun(s:Unit)=>[(2,.pointer (some (⟨b1,0,none⟩:Addr))),(3,.pointer (some (⟨b3,0,none⟩:Addr)))]) (fun(s:Unit) h=>zaw (⟨b1,0,none⟩:Addr) (⟨b3,0,none⟩:Addr) k h) ?_ ?_
 ·
  rintro _ h_1 H;replace H:zaw (⟨b1,0,none⟩:Addr) (⟨b3,0,none⟩:Addr) k h_1:=H;unfold zaw at H;refine zdy [(2,.pointer (some (⟨b1,0,none⟩:Addr))),(3,.pointer (some (⟨b3,0,none⟩:Addr)))] ⟨rfl,rfl,trivial⟩ ?_;refine zcn ?_;refine zal ?_;refine w_y (qos rfl rfl) rfl rfl ?_;refine w_p tok rfl rfl rfl ?_;refine zb9 ?_;refine zcr ?_;refine zoj ?_;exact x_ret _ rfl _ rfl ⟨(Value.func (.func 466) #[] #[.pointer (some (⟨b1,0,none⟩:Addr)),.pointer (some (⟨b3,0,none⟩:Addr))]),rfl,H⟩
 ·
  refine zcn ?_;refine zal ?_;obtain⟨v5,hv5,H⟩:=H;refine w_y (zbd tok rfl rfl rfl rfl hv5) rfl rfl ?_;refine w_p tok rfl rfl rfl ?_;refine zb9 ?_;refine zcr ?_;refine qka H rfl (fun H=>?_) (fun H=>?_)
  ·
   refine zal ?_;exact H.elim
  ·
   refine zua ?_;exact zxg () H ⟨rfl,rfl,trivial⟩
end Go.Q.Yo
end
section
set_option maxHeartbeats 2000000
open Go.RowKit Go.Shelf Go.Maps
namespace Go.Q
def NR (K:Act->World->Prop):Exit->Act->World->Prop:=fun e a w=>match e with | .normal=>K a w | _=>False
theorem qmp {K:Act->World->Prop}:¬ LetsOut (NR K):=fun⟨a,w,h⟩=>h
theorem up_nil (a:Act):up [] a=a:=by cases a;simp [up]
section
variable {F:Fence} {n:Nat} {X:List Deferred} {c:Cx} {e:Env} {h:zaa} {Q:Exit->Act->World->Prop} {x y:Code}
theorem qk7 (B:Bare c.P F) {id:Nat} {lops:List Oper} {K:Act->World->Prop} (hK:∀ a w,K a w->Q .normal (up X a) w) (hp:lops.all (fun o=>match o.op with | .defer _=>false | _=>true)=true) (H:gop c lops (NR K) (NR K .normal) lops e h):zry F n X c (.region id lops.toArray false) Q e h:=fun a w fa fw =>
 wpIn_mono (qab (X:=X) B hp qmp H a w fa fw) (by rintro e a w ⟨a0,rfl,q⟩;cases e with | normal=>exact hK _ _ q | _=>exact q.elim)
theorem qps (B:Bare c.P F) {id:Nat} {lops:List Oper} {K:Act->World->Prop} (hK:∀ a w,K a w->Q .normal (up X a) w) (e':Env) (hm:c.P.follows .mixedOrders=true) (hwf:wfR lops=true) (hs:Sub e' e) (hp:lops.all (fun o=>match o.op with | .defer _=>false | _=>true)=true)
  (H:wfR lops=true->Sim c lops (NR K) [] [] [] e' h):zry F n X c (.region id lops.toArray true) Q e h:=fun a w fa fw =>
 wpIn_mono (qoz (X:=X) B e' hm qmp hp hwf hs H a w fa fw) (by rintro e a w ⟨a0,rfl,q⟩;cases e with | normal=>exact hK _ _ q | _=>exact q.elim)
theorem qgl (H:zry F n X c x (Exit.then (y.wpIn F n c.P Q) Q) e h):zry F n X c (.seq x y) Q e h:=fun a w fa fw=>wpIn_seq (H a w fa fw)
theorem zxk {id:Nat} (H:zry F n X c x (Exit.inBlock id Q) e h):zry F n X c (.block id x) Q e h:=fun a w fa fw=>wpIn_block (H a w fa fw)
theorem zon (B:Bare c.P F) {id:Nat} {lops:List Oper} (hp:lops.all (fun o=>match o.op with | .defer _=>false | _=>true)=true) (H:gop c lops (NR fun a w=>y.wpIn F n c.P Q (up X a) w) (NR (fun a w=>y.wpIn F n c.P Q (up X a) w) .normal) lops e h):zry F n X c (.seq (.region id lops.toArray false) y) Q e h:=qgl (qk7 B (fun _ _ q=>q) hp H)
theorem qjz (B:Bare c.P F) {id:Nat} {lops:List Oper} (e':Env) (hm:c.P.follows .mixedOrders=true) (hwf:wfR lops=true) (hs:Sub e' e)
  (H:wfR lops=true->Sim c lops (NR fun a w=>y.wpIn F n c.P Q (up X a) w) [] [] [] e' h) (hp:lops.all (fun o=>match o.op with | .defer _=>false | _=>true)=true:=by kernel_rfl):zry F n X c (.seq (.region id lops.toArray true) y) Q e h:=qgl (qps B (fun _ _ q=>q) e' hm hwf hs hp H)
theorem x_i (H:zry F n X c y Q e h):gex c (NR fun a w=>y.wpIn F n c.P Q (up X a) w) .normal e h:=H
theorem zsx {P:Program} {N:Nat} {a:Act} {w:World} (fa:Fr N e a) (H:zry F n [] ⟨P,N,w,false⟩ x Q e w.heap):x.wpIn F n P Q a w:=by
 have:=H a w fa (WW.self w)
 rwa [up_nil] at this
end
end Go.Q
namespace Go.Q.Yo
open Go.Q
theorem zqv {f:FuncId} {us:List Value} {α:Type} {V:α->Value} {k:α->zaa->Prop} {h:zaa} {r:α} (p:Go.V.PureC Go.Proofs.Tryz.prog f us (V r)) (H:∀ h',Ext h.size h h'->k r h'):CallsH Go.Proofs.Tryz.prog f us.toArray h (fun u h'=>∃ r,u=V r/\k r h') :=
 (p h).mono (by rintro u h' ⟨rfl,X⟩;exact⟨r,rfl,H h' X⟩)
abbrev g5 (l:List Int):Value:=.agg (arr 5 .u64 l).toArray
def zoo (v:List Int) (k:List Int->zaa->Prop) (h:zaa):Prop:=∃ r,Go.V.PureC Go.Proofs.Tryz.prog 400 [.agg (arr 17 .u8 v).toArray] (g5 r)/\∀ h',Ext h.size h h'->k r h'
def zh2 (v u:List Int) (k:List Int->zaa->Prop) (h:zaa):Prop:=∃ r,Go.V.PureC Go.Proofs.Tryz.prog 399 [g5 v,g5 u] (g5 r)/\∀ h',Ext h.size h h'->k r h'
def zgx (v u:List Int) (k:List Int->zaa->Prop) (h:zaa):Prop:=∃ r,Go.V.PureC Go.Proofs.Tryz.prog 401 [g5 v,g5 u] (g5 r)/\∀ h',Ext h.size h h'->k r h'
def zgw (v:List Int) (k:List Int->zaa->Prop) (h:zaa):Prop:=∃ r,Go.V.PureC Go.Proofs.Tryz.prog 403 [g5 v] (g5 r)/\∀ h',Ext h.size h h'->k r h'
def zgp (v:List Int) (k:List Int->zaa->Prop) (h:zaa):Prop:=∃ r:List Int,Go.V.PureC Go.Proofs.Tryz.prog 404 [g5 v] (.agg (arr 16 .u8 r).toArray)/\∀ h',Ext h.size h h'->k r h'
def zq8 (v:List Int) (s:Slc) (k:List Int->zaa->Prop) (h:zaa):Prop:=∃ r:List Int,CallsH Go.Proofs.Tryz.prog 402 #[.agg (arr 16 .u8 v).toArray,s.v] h (fun u h'=>u = .agg (arr 16 .u8 r).toArray/\Ext h.size h h')/\∀ h',Ext h.size h h'->k r h'
theorem znw:zad Go.Proofs.Tryz.prog 397:=⟨_,Go.Proofs.Tryz.func397,by kernel_rfl,by kernel_rfl⟩
theorem zqc:zad Go.Proofs.Tryz.prog 400:=⟨_,Go.Proofs.Tryz.func400,by kernel_rfl,by kernel_rfl⟩
theorem zkw:zad Go.Proofs.Tryz.prog 399:=⟨_,Go.Proofs.Tryz.func399,by kernel_rfl,by kernel_rfl⟩
theorem zjk:zad Go.Proofs.Tryz.prog 401:=⟨_,Go.Proofs.Tryz.func401,by kernel_rfl,by kernel_rfl⟩
theorem zje:zad Go.Proofs.Tryz.prog 403:=⟨_,Go.Proofs.Tryz.func403,by kernel_rfl,by kernel_rfl⟩
theorem zjh:zad Go.Proofs.Tryz.prog 404:=⟨_,Go.Proofs.Tryz.func404,by kernel_rfl,by kernel_rfl⟩
theorem zqg:zad Go.Proofs.Tryz.prog 402:=⟨_,Go.Proofs.Tryz.func402,by kernel_rfl,by kernel_rfl⟩
theorem zoe (v:List Int) (k:List Int->zaa->Prop) (h:zaa) (H:zoo v k h):CallsH Go.Proofs.Tryz.prog 400 #[.agg (arr 17 .u8 v).toArray] h (fun u h'=>∃ r:List Int,u=g5 r/\k r h'):=by obtain⟨r,p,H⟩:=H;exact zqv (V:=g5) p H
theorem zj6 (v u:List Int) (k:List Int->zaa->Prop) (h:zaa) (H:zh2 v u k h):CallsH Go.Proofs.Tryz.prog 399 #[g5 v,g5 u] h (fun u h'=>∃ r:List Int,u=g5 r/\k r h'):=by obtain⟨r,p,H⟩:=H;exact zqv (V:=g5) p H
theorem zii (v u:List Int) (k:List Int->zaa->Prop) (h:zaa) (H:zgx v u k h):CallsH Go.Proofs.Tryz.prog 401 #[g5 v,g5 u] h (fun u h'=>∃ r:List Int,u=g5 r/\k r h'):=by obtain⟨r,p,H⟩:=H;exact zqv (V:=g5) p H
theorem zh4 (v:List Int) (k:List Int->zaa->Prop) (h:zaa) (H:zgw v k h):CallsH Go.Proofs.Tryz.prog 403 #[g5 v] h (fun u h'=>∃ r:List Int,u=g5 r/\k r h'):=by obtain⟨r,p,H⟩:=H;exact zqv (V:=g5) p H
theorem zih (v:List Int) (k:List Int->zaa->Prop) (h:zaa) (H:zgp v k h):CallsH Go.Proofs.Tryz.prog 404 #[g5 v] h (fun u h'=>∃ r:List Int,u = .agg (arr 16 .u8 r).toArray/\k r h'):=by obtain⟨r,p,H⟩:=H;exact zqv (V:=fun r:List Int=>Value.agg (arr 16 .u8 r).toArray) p H
theorem zpa (v:List Int) (s:Slc) (k:List Int->zaa->Prop) (h:zaa) (H:zq8 v s k h):CallsH Go.Proofs.Tryz.prog 402 #[.agg (arr 16 .u8 v).toArray,s.v] h (fun u h'=>∃ r:List Int,u = .agg (arr 16 .u8 r).toArray/\k r h'):=by obtain⟨r,p,H⟩:=H;exact p.mono (by rintro u h' ⟨rfl,X⟩;exact⟨r,rfl,H h' X⟩)
def zp6 (bR bH:Nat) (p0:Slc) (k:Unit->zaa->Prop) (h4:zaa):Prop :=
 (∃(b5:Nat) (h6:zaa),b5=h4.size/\h6=h4.push (.cells (arr 17 .u8 ([]:List Int)).toArray 576)/\(∃ s7:Slc,(0:Int)<=0/\0<=(17:Int)/\17<=(17:Int)/\s7=zcb ⟨some (⟨b5,0,none⟩:Addr),17,17⟩ 1 (0:Int).toNat (17:Int).toNat 17/\(∃ l8:List Value,Cpy 1 h6 s7 p0 l8 (fun h9=>(0:Int)<=((min p0.len s7.len:Nat):Int)/\((min p0.len s7.len:Nat):Int)<(17:Int)/\(∃ h11:zaa,WrH h9 ((⟨b5,0,none⟩:Addr).add (((min p0.len s7.len:Nat):Int).toNat*1))/\h11=zd7 h9 ((⟨b5,0,none⟩:Addr).add (((min p0.len s7.len:Nat):Int).toNat*1)) (.int .u8 1)/\(∃ v12:List Int,CellsAt h11 (⟨bH,0,none⟩:Addr) (arr 5 .u64 v12)/\(∃ v13:List Int,CellsAt h11 (⟨b5,0,none⟩:Addr) (arr 17 .u8 v13)/\(∃ v14:List Int,CellsAt h11 (⟨bR,0,none⟩:Addr) (arr 5 .u64 v14)/\(zoo v13 (fun(r15:List Int) h16=>CellsAt h16 (⟨bR,0,none⟩:Addr) (arr 5 .u64 v14)/\CellsAt h16 (⟨bH,0,none⟩:Addr) (arr 5 .u64 v12)/\(zh2 v12 r15 (fun(r19:List Int) h20=>CellsAt h20 (⟨bR,0,none⟩:Addr) (arr 5 .u64 v14)/\(zgx r19 v14 (fun(r22:List Int) h23=>∃ h24:zaa,WrsAt h23 (⟨bH,0,none⟩:Addr) 5/\h24=zak h23 (⟨bH,0,none⟩:Addr) 0 (arr 5 .u64 r22)/\(k () h24)) h20)) h16)) h11)))))))))
def zp1 (bK bO bH:Nat) (k:Unit->zaa->Prop) (h6:zaa):Prop :=
 (∃ v7:List Int,CellsAt h6 (⟨bH,0,none⟩:Addr) (arr 5 .u64 v7)/\(∃ s8:Slc,(0:Int)<=16/\16<=(32:Int)/\32<=(32:Int)/\s8=zcb ⟨some (⟨bK,0,none⟩:Addr),32,32⟩ 1 (16:Int).toNat (32:Int).toNat 32/\(zgw v7 (fun(r9:List Int) h10=>zgp r9 (fun(r11:List Int) h12=>zq8 r11 s8 (fun(r13:List Int) h14=>∃ h15:zaa,WrsAt h14 (⟨bO,0,none⟩:Addr) 16/\h15=zak h14 (⟨bO,0,none⟩:Addr) 0 (arr 16 .u8 r13)/\(k () h15)) h12) h10) h6)))
abbrev qfy:=Go.Proofs.YhkYo.Kc
def zff (M:List Int) (k:Nat):List Int:=(M.drop (16*k)).take 16
theorem zu9 {M:List Int} {zs:List Value} {k:Nat} (h:16*k<M.length):((b8 M++zs).drop (16*k)).take (zff M k).length=b8 (zff M k):=by
 have e:(b8 M++zs).drop (16*k)=b8 (M.drop (16*k))++zs:=by rw [List.drop_append_of_le_length (by rw [List.length_map];omega),← List.map_drop]
 rw [e,List.take_append_of_le_length (by unfold zff;rw [List.length_map,List.length_take];omega)];unfold zff;rw [← List.map_take,List.length_take,← List.take_take,List.take_length]
theorem zvv {bR bH:Nat} {s:Slc} {ch st r b q st':List Int} {h:zaa} {k:Unit->zaa->Prop} (hne:bR≠bH) (R:Blk h bR (arr 5 .u64 r) 571) (S:Blk h bH (arr 5 .u64 st) 571) (C:SlcAt h s (b8 ch)) (lc:s.len=ch.length) (l16:ch.length<=16)
  (p1:Go.V.PureC Go.Proofs.Tryz.prog 400 [.agg (arr 17 .u8 (ch++[1])).toArray] (g5 b)) (p2:Go.V.PureC Go.Proofs.Tryz.prog 399 [g5 st,g5 b] (g5 q)) (p3:Go.V.PureC Go.Proofs.Tryz.prog 401 [g5 q,g5 r] (g5 st'))
  (H:∀ h',h.size<=h'.size->(∀ j,j<h.size->j≠bH->h'[j]? = h[j]?)->Blk h' bH (arr 5 .u64 st') 571->k () h'):zp6 bR bH s k h:=by
 unfold zp6;refine⟨_,_,rfl,rfl,_,by decide,by decide,by decide,rfl,?_⟩;have Z:=Blk.push h (arr 17 .u8 ([]:List Int)) 576;have zl:=R.lt;have sl:=S.lt;have X1:=Ext.push h (.cells (arr 17 .u8 ([]:List Int)).toArray 576) (Nat.le_refl _);obtain⟨h6,e6⟩:∃ x,x=h.push (.cells (arr 17 .u8 ([]:List Int)).toArray 576):=⟨_,rfl⟩
 rw [← e6] at Z X1 ⊢;have z6:h6.size=h.size+1:=by rw [e6];simp
 obtain⟨b5,e5⟩:∃ x,x=h.size:=⟨_,rfl⟩
 rw [← e5] at Z ⊢;have es:zcb ⟨some (⟨b5,0,none⟩:Addr),17,17⟩ 1 (0:Int).toNat (17:Int).toNat 17=⟨some ⟨b5,0,none⟩,17,17⟩:=rfl;rw [es];have C6:SlcAt h6 s (b8 ch):=C.ext X1;have la:(arr 17 .u8 ([]:List Int)).length=17:=zaj _ _ _;have emin:min s.len 17=ch.length:=by omega
 refine⟨b8 ch,zwi (a:=⟨b5,0,none⟩) rfl ⟨b8 ch,C6,by rw [List.length_map,lc,Nat.mul_one],?_⟩ (znk ch) (WrsAt.of_blk Z (by rw [la,List.length_map];omega)) ?_⟩
 ·show b8 ch=(b8 ch).take (min s.len 17*1)
  rw [emin,Nat.mul_one,List.take_of_length_le (by rw [List.length_map];exact Nat.le_refl _)]
 have Z9:=Blk.sets (b8 ch) 0 0 Z (by rw [la,List.length_map];omega);obtain⟨h9,e9⟩:∃ x,x=zak h6 ⟨b5,0,none⟩ 0 (b8 ch):=⟨_,rfl⟩
 rw [← e9] at Z9 ⊢;have X9:Ext b5 h6 h9:=by rw [e9];exact Ext.sets _ _ _ (Nat.le_refl _)
 have z9:=X9.size;show (0:Int)<=((min s.len 17:Nat):Int)/\((min s.len 17:Nat):Int)<(17:Int)/\_;rw [emin];refine⟨by omega,by omega,?_⟩;rw [Int.toNat_natCast,Nat.mul_one,add_mk,Nat.zero_add]
 have l9:((arr 17 .u8 ([]:List Int)).take (0+0)++b8 ch++(arr 17 .u8 ([]:List Int)).drop (0+0+(b8 ch).length)).length=17:=by
  simp only [List.length_append,List.length_take,List.length_drop,la,List.length_map];omega
 have Z11:=Z9.set (i:=ch.length) (v:=.int .u8 1);refine⟨_,Z9.wr (by rw [l9];omega),rfl,?_⟩;obtain⟨h11,e11⟩:∃ x,x=zd7 h9 ⟨b5,ch.length,none⟩ (.int .u8 1):=⟨_,rfl⟩
 rw [← e11] at Z11 ⊢;have X11:Ext b5 h9 h11:=by rw [e11];exact Ext.set _ _ (Nat.le_refl _)
 have z11:=X11.size
 have eZ:((arr 17 .u8 ([]:List Int)).take (0+0)++b8 ch++(arr 17 .u8 ([]:List Int)).drop (0+0+(b8 ch).length)).set ch.length (.int .u8 1)=arr 17 .u8 (ch++[1]):=by
  apply List.ext_getElem?;intro i
  conv=>rhs;rw [zde,List.getElem?_map]
  by_cases hi:i<17
  ·rw [zgf _ _ hi,List.getElem?_set,l9]
   by_cases h1:ch.length=i
   ·rw [if_pos h1,if_pos (by omega)]
    subst h1;simp [List.getD_eq_getElem?_getD]
   ·rw [if_neg h1]
    by_cases h2:i<ch.length
    ·have:((b8 ch++(arr 17 .u8 ([]:List Int)).drop (0+0+(b8 ch).length)))[i]? = some (.int .u8 (ch[i])):=by
      rw [List.getElem?_append_left (by rw [List.length_map];exact h2),List.getElem?_map,List.getElem?_eq_getElem h2];rfl
     simp only [Nat.add_zero,List.take_zero,List.nil_append] at this ⊢;rw [this];simp [List.getD_eq_getElem?_getD,List.getElem?_append_left h2,List.getElem?_eq_getElem h2]
    ·simp only [Nat.add_zero,List.take_zero,List.nil_append,Nat.zero_add]
     rw [List.getElem?_append_right (by rw [List.length_map];omega),List.getElem?_drop,zde,List.getElem?_map,zgf _ _ (by rw [List.length_map];omega)];simp [List.getD_eq_getElem?_getD,List.getElem?_append_right (show ch.length<=i by omega)];rw [List.getElem?_eq_none (by simp;omega)];simp
  ·rw [List.getElem?_eq_none (by rw [List.length_set,l9];omega),List.getElem?_eq_none (by rw [zhb];omega)];rfl
 rw [eZ] at Z11;have R11:Blk h11 bR (arr 5 .u64 r) 571:=((R.ext X1 zl).ext X9 (by omega)).ext X11 (by omega);have S11:Blk h11 bH (arr 5 .u64 st) 571:=((S.ext X1 sl).ext X9 (by omega)).ext X11 (by omega);refine⟨st,CellsAt.of_blk S11,ch++[1],CellsAt.of_blk Z11,r,CellsAt.of_blk R11,b,p1,fun h16 X16=>?_⟩;have R16:=R11.ext X16 (by omega);have S16:=S11.ext X16 (by omega);have z16:=X16.size;refine⟨CellsAt.of_blk R16,CellsAt.of_blk S16,q,p2,fun h20 X20=>?_⟩;have R20:=R16.ext X20 (by omega);have S20:=S16.ext X20 (by omega);have z20:=X20.size;refine⟨CellsAt.of_blk R20,st',p3,fun h23 X23=>?_⟩;have S23:=S20.ext X23 (by omega);have z23:=X23.size;have l5:∀ l:List Int,(arr 5 .u64 l).length=5:=fun l=>zaj _ _ _;refine⟨_,WrsAt.of_blk S23 (by rw [l5];omega),rfl,H _ (by rw [setsH_size];omega) (fun j hj hn=>?_) (S23.sets_all (by rw [l5,l5]))⟩;rw [setsH_other _ _ (by exact hn),X23.block j (by omega),X20.block j (by omega),X16.block j (by omega),X11.block j (by omega),X9.block j (by omega),X1.block j (by omega)]
def IT (W1:World) (bH:Nat) (st:Nat->List Int) (k:Nat) (W:World):Prop :=
 W.os=W1.os/\W.tape=W1.tape/\W.output=W1.output/\W1.heap.size<=W.heap.size/\(∀ j,j<W1.heap.size->j≠bH->W.heap[j]? = W1.heap[j]?)/\Blk W.heap bH (arr 5 .u64 (st k)) 571
theorem IT.own {W1:World} {bH:Nat} {st:Nat->List Int} (hb:bH<W1.heap.size):OwnFrom W1.heap.size (IT W1 bH st):=by
 rintro k W W' row ⟨i1,i2,i3,i4,i5,i6⟩ hg hr;have key:∀ j,j<W1.heap.size->W'.heap[j]? = W.heap[j]?:=fun j hj=>hg.block j (by omega) (fun e=>by have:=(hr j e.symm).1;omega);exact⟨hg.os.trans i1,hg.tape.trans i2,hg.output.trans i3,Nat.le_trans i4 hg.size,fun j hj hn=>(key j hj).trans (i5 j hj hn),i6.old (key bH hb)⟩
theorem zuv {bK bO bH:Nat} {key st fin tg out:List Int} {h:zaa} {k:Unit->zaa->Prop} (lk:key.length=32) (K:Blk h bK (b8 key) 23) (O:Blk h bO (arr 16 .u8 ([]:List Int)) 373) (S:Blk h bH (arr 5 .u64 st) 571)
  (pf:Go.V.PureC Go.Proofs.Tryz.prog 403 [g5 st] (g5 fin)) (pb:Go.V.PureC Go.Proofs.Tryz.prog 404 [g5 fin] (.agg (arr 16 .u8 tg).toArray))
  (pp:∀(h':zaa) (b:Nat),Blk h' b (b8 key) 23->CallsH Go.Proofs.Tryz.prog 402 #[.agg (arr 16 .u8 tg).toArray,.slice (some ⟨b,16,none⟩) 16 16] h' fun u h''=>u = .agg (arr 16 .u8 out).toArray/\Ext h'.size h' h'')
  (H:∀ h',h.size<=h'.size->(∀ j,j<h.size->j≠bO->h'[j]? = h[j]?)->Blk h' bO (arr 16 .u8 out) 373->k () h'):zp1 bK bO bH k h:=by
 unfold zp1;have kl:=K.lt;have ol:=O.lt;refine⟨st,CellsAt.of_blk S,_,by decide,by decide,by decide,rfl,fin,pf,fun h10 X10=>?_⟩;have z10:=X10.size;have K10:=K.ext X10 kl;have O10:=O.ext X10 ol;refine⟨tg,pb,fun h12 X12=>?_⟩;have z12:=X12.size;have K12:=K10.ext X12 (by omega);have O12:=O10.ext X12 (by omega);refine⟨out,pp h12 bK K12,fun h14 X14=>?_⟩;have z14:=X14.size;have O14:=O12.ext X14 (by omega);have l16:∀ l:List Int,(arr 16 .u8 l).length=16:=fun l=>zaj _ _ _;refine⟨_,WrsAt.of_blk O14 (by rw [l16];omega),rfl,H _ (by rw [setsH_size];omega) (fun j hj hn=>?_) (O14.sets_all (by rw [l16,l16]))⟩;rw [setsH_other _ _ (by exact hn),X14.block j (by omega),X12.block j (by omega),X10.block j (by omega)]
theorem qbf {s:Slc} {k:Value->zaa->Prop} {h:zaa} (H:k (.func (.func 466) #[] #[.pointer (some ⟨h.size,0,none⟩),.pointer (some ⟨h.size+1,0,none⟩)]) ((h.push (.cells ([s.v]:List Value).toArray 24)).push (.cells ([.int .i64 16]:List Value).toArray 3))):zbj s 16 k h:=by
 unfold zbj;refine⟨_,_,rfl,rfl,_,_,rfl,rfl,16,?_,?_⟩
 ·have:=(Blk.push (h.push (.cells ([s.v]:List Value).toArray 24)) [.int .i64 16] 3).cell (i:=0)
  exact this
 ·rw [if_neg (by decide)]
  unfold zaw;have:(h.push (.cells ([s.v]:List Value).toArray 24)).size=h.size+1:=by simp
  rw [this];exact H
theorem qiz {F:Fence} {n:Nat} {X:List Deferred} {c:Cx} {e e':Env} {h:zaa} {Q:Exit->Act->World->Prop} {x:Code} (hs:Sub e' e) (H:zry F n X c x Q e' h):zry F n X c x Q e h:=fun a w fa fw=>H a w (fa.sub hs) fw
theorem qjo {args:List Value} {N:Nat} (hn:args.length<=N):Fr N (zmi 0 args) { tmps:=args.toArray++Array.replicate (N-args.toArray.size) undef,defers:=[] }:=by
 refine⟨rfl,by simp;omega,fun s v hs=>?_⟩;have:=(zms args 0 s v hs).2;have hlt:s<args.length:=(List.getElem?_eq_some_iff.1 this).1;simp at this;rw [Array.getElem?_append_left (by simpa using hlt)];simpa using this
theorem qkr {w:World} {key:List Int} {ps:Slc} {L:List (Slc × List Int)} {r:List Int} {st:Nat->List Int} {fin tg out:List Int}
  (lk:key.length=32) (S:SlcAt w.heap ps (L.map fun q=>Slc.v q.1)) (lp:ps.len=L.length) (A:∀ q∈L,SlcAt w.heap q.1 (b8 q.2)/\q.1.len=q.2.length) (mL:L.length<=10) (fl:(zdf L).length<=100000) (f0:0<(zdf L).length)
  (pc:Go.V.PureC Go.Proofs.Tryz.prog 397 [.agg (arr 32 .u8 key).toArray] (g5 r)) (s0:st 0=[])
  (pr:∀ k,k<((zdf L).length+15) / 16->∃ b q,Go.V.PureC Go.Proofs.Tryz.prog 400 [.agg (arr 17 .u8 (zff (zdf L) k++[1])).toArray] (g5 b)/\Go.V.PureC Go.Proofs.Tryz.prog 399 [g5 (st k),g5 b] (g5 q)/\Go.V.PureC Go.Proofs.Tryz.prog 401 [g5 q,g5 r] (g5 (st (k+1))))
  (pf:Go.V.PureC Go.Proofs.Tryz.prog 403 [g5 (st (((zdf L).length+15) / 16))] (g5 fin)) (pb:Go.V.PureC Go.Proofs.Tryz.prog 404 [g5 fin] (.agg (arr 16 .u8 tg).toArray))
  (pp:∀(h':zaa) (b:Nat),Blk h' b (b8 key) 23->CallsH Go.Proofs.Tryz.prog 402 #[.agg (arr 16 .u8 tg).toArray,.slice (some ⟨b,16,none⟩) 16 16] h' fun u h''=>u = .agg (arr 16 .u8 out).toArray/\Ext h'.size h' h'') :
  CallsIn Fence.wide 9 Go.Proofs.Tryz.prog 299 #[.agg (arr 32 .u8 key).toArray,ps.v] w fun e W'=>e = .returned (.agg (arr 16 .u8 out).toArray)/\W'.os=w.os/\W'.tape=w.tape/\W'.output=w.output/\Ext w.heap.size w.heap W'.heap:=by
 refine callsIn_of_wp_marks Go.Proofs.Tryz.func299 rfl trivial ?_ rfl;have B0:Bare Go.Proofs.Tryz.prog Fence.wide:=zxp;refine zsx (N:=30) (qjo (args:=[.agg (arr 32 .u8 key).toArray,ps.v]) (show 2<=30 by decide)) ?_;refine qiz (e':=[(0,.agg (arr 32 .u8 key).toArray),(1,Slc.v ps)]) ⟨rfl,rfl,trivial⟩ ?_
 -- the key, the answer
 refine zon B0 (by kernel_rfl) ?_;obtain⟨b1,eb1⟩:∃ b,b=w.heap.size:=⟨_,rfl⟩
 obtain⟨h2,eh2⟩:∃ x,x=w.heap.push (.cells (arr 32 .u8 key).toArray 23):=⟨_,rfl⟩
 refine w_h (zwz rfl rfl eb1 eh2) rfl rfl ?_;obtain⟨b3,eb3⟩:∃ b,b=h2.size:=⟨_,rfl⟩
 obtain⟨h4,eh4⟩:∃ x,x=h2.push (.cells (arr 16 .u8 ([]:List Int)).toArray 373):=⟨_,rfl⟩
 refine w_h (zlr tok rfl rfl eb3 eh4) rfl rfl ?_;refine zb9 ?_;refine x_i ?_;have ek:arr 32 .u8 key=b8 key:=zcq lk;have z2:h2.size=w.heap.size+1:=by rw [eh2];simp
 have z4:h4.size=w.heap.size+2:=by rw [eh4];simp [z2]
 have K4:Blk h4 b1 (b8 key) 23:=by rw [eh4,eh2,eb1,ek];exact(Blk.push _ _ _).pushed _
 have O4:Blk h4 b3 (arr 16 .u8 ([]:List Int)) 373:=by rw [eh4,eb3];exact Blk.push _ _ _
 have X4:Ext w.heap.size w.heap h4:=by
  rw [eh4,eh2];exact(Ext.push _ _ (Nat.le_refl _)).trans (Ext.push _ _ (by simp))
 -- r
 refine zon B0 (by kernel_rfl) ?_;refine w_y (zhv tok rfl rfl rfl rfl rfl (show CellsAt h4 ⟨b1,0,none⟩ (arr 32 .u8 key) from by rw [ek];exact CellsAt.of_blk K4)) rfl rfl ?_;refine zho znw (pc h4) rfl rfl rfl rfl ?_;rintro _ h7 ⟨rfl,X7⟩;have z7:=X7.size;obtain⟨b8',eb8⟩:∃ b,b=h7.size:=⟨_,rfl⟩
 obtain⟨h9,eh9⟩:∃ x,x=h7.push (.cells (arr 5 .u64 ([]:List Int)).toArray 571):=⟨_,rfl⟩
 refine w_h (zlr tok rfl rfl eb8 eh9) rfl rfl ?_;have l5:∀ l:List Int,(arr 5 .u64 l).length=5:=fun l=>zaj _ _ _;have R9:Blk h9 b8' (arr 5 .u64 ([]:List Int)) 571:=by rw [eh9,eb8];exact Blk.push _ _ _
 have z9:h9.size=h7.size+1:=by rw [eh9];simp
 obtain⟨h10,eh10⟩:∃ x,x=zak h9 (⟨b8',0,none⟩:Addr) 0 (arr 5 .u64 r):=⟨_,rfl⟩
 refine w_h (zrx tok rfl rfl rfl rfl rfl (qin (by kernel_rfl)) (show WrsAt h9 (⟨b8',0,none⟩:Addr) 5 from WrsAt.of_blk R9 (by rw [l5];omega)) eh10) rfl rfl ?_;refine zb9 ?_;refine x_i ?_;have R10:Blk h10 b8' (arr 5 .u64 r) 571:=by rw [eh10];exact R9.sets_all (by rw [l5,l5])
 have X10:Ext h7.size h7 h10:=by
  rw [eh10,eh9];exact(Ext.push _ _ (Nat.le_refl _)).trans (Ext.sets _ _ _ (by show h7.size<=b8';omega))
 have z10:h10.size=h7.size+1:=by rw [eh10,setsH_size];exact z9
 -- h
 refine zon B0 (by kernel_rfl) ?_;obtain⟨b11,eb11⟩:∃ b,b=h10.size:=⟨_,rfl⟩
 obtain⟨h12,eh12⟩:∃ x,x=h10.push (.cells (arr 5 .u64 ([]:List Int)).toArray 571):=⟨_,rfl⟩
 refine w_h (zlr tok rfl rfl eb11 eh12) rfl rfl ?_;refine zb9 ?_;refine x_i ?_;have S12:Blk h12 b11 (arr 5 .u64 ([]:List Int)) 571:=by rw [eh12,eb11];exact Blk.push _ _ _
 have X12:Ext h10.size h10 h12:=by rw [eh12];exact Ext.push _ _ (Nat.le_refl _)
 have z12:h12.size=h10.size+1:=by rw [eh12];simp
 have K12:Blk h12 b1 (b8 key) 23:=((K4.ext X7 (by omega)).ext X10 (by omega)).ext X12 (by omega);have O12:Blk h12 b3 (arr 16 .u8 ([]:List Int)) 373:=((O4.ext X7 (by omega)).ext X10 (by omega)).ext X12 (by omega);have R12:Blk h12 b8' (arr 5 .u64 r) 571:=R10.ext X12 (by omega);have Xw:Ext w.heap.size w.heap h12:=X4.trans ((X7.mono (by omega)).trans ((X10.mono (by omega)).trans (X12.mono (by omega))))
 -- all bytes, their parts
 refine qgl ?_;refine zon B0 (by kernel_rfl) ?_;refine w_p tok rfl rfl rfl ?_;refine zho qqk (qq8 ps (fun s' h'=>Row h12.size h' 5 1 s' (b8 (zdf L))/\Ext h12.size h12 h') h12 (zq5 (S.ext Xw) lp (fun q hq=>⟨(A q hq).1.ext Xw,(A q hq).2⟩) mL fl fun s' h' R X=>⟨R,X⟩)) rfl rfl rfl rfl ?_;rintro _ h14 ⟨s13,rfl,R14,X14⟩;have z14:=X14.size;refine zho zf9 (zfm s13 16 (fun v h'=>v = .func (.func 466) #[] #[.pointer (some ⟨h14.size,0,none⟩),.pointer (some ⟨h14.size+1,0,none⟩)]/\h'=((h14.push (.cells ([s13.v]:List Value).toArray 24)).push (.cells ([.int .i64 16]:List Value).toArray 3))) h14 (qbf ⟨rfl,rfl⟩)) rfl rfl rfl rfl ?_;rintro _ h16 ⟨_,rfl,rfl,eh16⟩;refine zb9 ?_;refine x_i ?_;obtain⟨M,eM⟩:∃ M,M=zdf L:=⟨_,rfl⟩
 rw [← eM] at R14 fl f0 pr pf;have lM:s13.len=M.length:=by have:=R14.len;rw [this,List.length_map]
 obtain⟨g,zs,et,gB,Bg,lc,gb⟩:=R14.opened (by omega);have X16:Ext h14.size h14 h16:=by rw [eh16];exact(Ext.push _ _ (Nat.le_refl _)).trans (Ext.push _ _ (by simp))
 have z16:h16.size=h14.size+2:=by rw [eh16];simp
 have gl:=Bg.lt;have P1:Blk h16 h14.size [s13.v] 24:=by rw [eh16];exact(Blk.push _ _ _).pushed _
 have P2:Blk h16 (h14.size+1) [.int .i64 16] 3:=by
  rw [eh16];have:=Blk.push (h14.push (.cells ([s13.v]:List Value).toArray 24)) [.int .i64 16] 3;rw [show (h14.push (.cells ([s13.v]:List Value).toArray 24)).size=h14.size+1 from by simp] at this;exact this
 have K16:Blk h16 b1 (b8 key) 23:=(K12.ext X14 (by omega)).ext X16 (by omega);have O16:Blk h16 b3 (arr 16 .u8 ([]:List Int)) 373:=(O12.ext X14 (by omega)).ext X16 (by omega);have R16:Blk h16 b8' (arr 5 .u64 r) 571:=(R12.ext X14 (by omega)).ext X16 (by omega);have S16:Blk h16 b11 (arr 5 .u64 ([]:List Int)) 571:=(S12.ext X14 (by omega)).ext X16 (by omega);have G16:Blk h16 g (b8 M++zs) 5:=Bg.ext X16 (by omega);have Xz:Ext w.heap.size w.heap h16:=Xw.trans ((X14.mono (by omega)).trans (X16.mono (by omega)))
 -- the range
 refine zxk ?_;intro a W fa fw;have hh:W.heap=h16:=fw.heap
 refine zmo (F:=Fence.wide) rfl (by omega) (gf:=466) (lb:=#[.pointer (some ⟨h14.size,0,none⟩),.pointer (some ⟨h14.size+1,0,none⟩)]) (encs:=fun k=>#[Go.Proofs.YhkYo.pt g 0 M.length k]) (Kp:=qfy h14.size (h14.size+1)) (N:=(M.length+15) / 16)
  (fa.agr (.tmp 13) _ rfl) trivial (Go.Proofs.enters_of Go.Proofs.Tryz.func466 (by kernel_rfl) rfl)
  (Go.Proofs.YhkYo.chunk_yields Fence.wide 8 trivial rfl (by omega) h14.size (h14.size+1) g 0 M.length s13.cap (by omega) (by omega) W (by rw [hh];omega) (by rw [hh];omega) ?hc1 ?hc2)
  (fun p q=>p.trans q) ?hkb (fun _=>rfl) (IT W b11 st) (IT.own (by rw [hh];omega)) ?h0 (fun k a'=>Fr 30 [(5,.pointer (some (⟨b8',0,none⟩:Addr))),(6,.pointer (some (⟨b11,0,none⟩:Addr))),(7,Go.Proofs.YhkYo.pt g 0 M.length k)] a') ?hkn ?hassign ?hbody ?hdone
 case hc1 =>
  have:zab W.heap ⟨h14.size,0,none⟩=some s13.v:=by rw [hh,P1.cell];rfl
  rw [et,lM] at this;exact this
 case hc2 =>
  have:zab W.heap ⟨h14.size+1,0,none⟩=some (.int .i64 16):=by rw [hh,P2.cell];rfl
  exact this
 case hkb =>
  intro W2 l o o' hl ho hc hw;rw [hh] at hl;exact⟨World.putObj_heap_other (by omega),World.putObj_heap_other (by omega)⟩
 case hkn =>
  intro A C hA hg;rw [hh] at hA;exact⟨hg.block _ (by omega) (fun e=>by cases e),hg.block _ (by omega) (fun e=>by cases e)⟩
 case h0=>exact⟨rfl,rfl,rfl,Nat.le_refl _,fun _ _ _=>rfl,by rw [s0,hh];exact S16⟩
 case hassign =>
  intro l k W2 K hK;have B1:Bare Go.Proofs.Tryz.prog (Fence.wide.inRound l):=zo1 l;have fa2:=fa.put (some 14) (Go.Proofs.YhkYo.pt g 0 M.length k) rfl
  have ea:({ tmps:=(#[14].zip #[Go.Proofs.YhkYo.pt g 0 M.length k]).foldl (fun t (x:Nat × Value)=>t.setIfInBounds x.1 x.2) (up [] a).tmps,defers:=[] }:Act)=a.put (some 14) (Go.Proofs.YhkYo.pt g 0 M.length k):=by
   have:a.defers=[]:=fa.d
   cases a
   simp at this;subst this;simp [up,Act.put]
  refine(show Code.wpIn _ _ _ _ _ { tmps:=(#[14].zip #[Go.Proofs.YhkYo.pt g 0 M.length k]).foldl (fun t (x:Nat × Value)=>t.setIfInBounds x.1 x.2) (up [] a).tmps,defers:=[] } W2 from ?_);rw [ea];refine zsx (N:=30) (fa2.sub (e':=[(14,Go.Proofs.YhkYo.pt g 0 M.length k),(5,.pointer (some (⟨b8',0,none⟩:Addr))),(6,.pointer (some (⟨b11,0,none⟩:Addr)))]) ⟨rfl,rfl,rfl,trivial⟩) ?_;refine qk7 B1 (K:=fun a w=>Exit.then K (fun _ _ _=>False) .normal (up [] a) w) (fun _ _ q=>q) (by kernel_rfl) ?_;refine w_p tok rfl rfl rfl ?_;refine zb9 ?_;intro a3 w3 fa3 fw3;show K (up [] a3) w3;rw [up_nil];refine hK a3 w3 ⟨fw3.os,fw3.tape,fw3.output,by rw [fw3.heap];exact Nat.le_refl _,fun j _ _=>by rw [fw3.heap]⟩ (fa3.sub ⟨rfl,rfl,rfl,trivial⟩)
 case hbody =>
  intro l k a' W2 hI hA hk;have B1:Bare Go.Proofs.Tryz.prog (Fence.wide.inRound l):=zo1 l;obtain⟨i1,i2,i3,i4,i5,i6⟩:=hI;rw [hh] at i4 i5;obtain⟨c5,q5,p1,p2,p3⟩:=pr k hk
  have hv:Go.Proofs.YhkYo.pt g 0 M.length k=Slc.v ⟨some ⟨g,16*k,none⟩,min 16 (M.length-16*k),min 16 (M.length-16*k)⟩:=by
   simp [Go.Proofs.YhkYo.pt,Slc.v]
  rw [hv] at hA
  have lch:(zff M k).length=min 16 (M.length-16*k):=by
   unfold zff;rw [List.length_take,List.length_drop]
  have G2:Blk W2.heap g (b8 M++zs) 5:=G16.old (i5 g (by omega) (by omega));have R2:Blk W2.heap b8' (arr 5 .u64 r) 571:=R16.old (i5 b8' (by omega) (by omega))
  have C2:SlcAt W2.heap ⟨some ⟨g,16*k,none⟩,min 16 (M.length-16*k),min 16 (M.length-16*k)⟩ (b8 (zff M k)):=by
   exact G2.slc (n:=(zff M k).length) (zu9 (by omega))
  have H:zp6 b8' b11 ⟨some ⟨g,16*k,none⟩,min 16 (M.length-16*k),min 16 (M.length-16*k)⟩ (fun _ h'=>∀ W3:World,W3.os=W2.os->W3.tape=W2.tape->W3.output=W2.output->W3.heap=h'->KeepsFrom W.heap.size W2 W3/\qfy h14.size (h14.size+1) W2 W3/\IT W b11 st (k+1) W3) W2.heap :=
   zvv (by omega) R2 i6 C2 (by rw [lch]) (by rw [lch];omega) p1 p2 p3 fun h' s1 s2 s3 W3 e1 e2 e3 e4=>by
    subst e4;refine⟨⟨s1,fun j o hB hj _=>?_⟩,⟨s2 _ (by omega) (by omega),s2 _ (by omega) (by omega)⟩,e1.trans i1,e2.trans i2,e3.trans i3,by rw [hh];omega,fun j hj hn=>?_,s3⟩
    ·rw [hh] at hB
     rw [s2 j (Array.getElem?_eq_some_iff.1 hj).1 (by omega)];exact hj
    ·rw [hh] at hj
     rw [hh,s2 j (by omega) hn];exact i5 j hj hn
  unfold zp6 at H;refine zsx (N:=30) hA ?_;refine zxk ?_;refine zon B1 (by kernel_rfl) ?_;obtain⟨b5,h6,eb5,eh6,H⟩:=H;refine w_h (zlr tok rfl rfl eb5 eh6) rfl rfl ?_;refine zb9 ?_;refine x_i ?_;refine zon B1 (by kernel_rfl) ?_;obtain⟨s7,ps7,qs7,rs7,es7,H⟩:=H;refine qqz (zej (L:=0) (H:=17) tok rfl rfl rfl rfl rfl rfl ps7 qs7 rs7) (congrArg Slc.v es7) rfl rfl ?_;refine w_p tok rfl rfl rfl ?_;obtain⟨l8,H⟩:=H;refine w_a (zw1 (d:=s7) (s:=⟨some ⟨g,16*k,none⟩,min 16 (M.length-16*k),min 16 (M.length-16*k)⟩) tok rfl rfl rfl rfl rfl H) rfl rfl ?_;rintro _ h9 ⟨rfl,H⟩;obtain⟨lb10,ub10,H⟩:=H;refine w_y (zbw tok rfl rfl rfl rfl rfl lb10 ub10) rfl rfl ?_;obtain⟨h11,wh11,eh11,H⟩:=H;refine w_h (qd9 tok rfl rfl rfl rfl rfl rfl wh11 eh11) rfl rfl ?_;refine zb9 ?_;refine x_i ?_;refine qps B1 (K:=fun a w=>Exit.inBlock 1 (fun e _ W3=>e=Exit.normal/\KeepsFrom W.heap.size W2 W3/\qfy h14.size (h14.size+1) W2 W3/\IT W b11 st (k+1) W3) .normal (up [] a) w) (fun _ _ q=>q) [(5,.pointer (some (⟨b8',0,none⟩:Addr))),(6,.pointer (some (⟨b11,0,none⟩:Addr))),(8,.pointer (some (⟨b5,0,none⟩:Addr)))] (by kernel_rfl) (by kernel_rfl) ⟨rfl,rfl,rfl,trivial⟩ (by kernel_rfl) (fun wf=>?_);obtain⟨v12,hv12,H⟩:=H;refine qai 0 (ei:=[(6,.pointer (some (⟨b11,0,none⟩:Addr)))]) (d:=(some 19)) wf (by kernel_rfl) ⟨rfl,trivial⟩ (by kernel_rfl) (by kernel_rfl) (zvy rfl rfl rfl (zhv tok rfl rfl rfl rfl rfl hv12)) (fun P_0=>?_);obtain⟨v13,hv13,H⟩:=H;refine qai 1 (ei:=[(8,.pointer (some (⟨b5,0,none⟩:Addr)))]) (d:=(some 20)) wf (by kernel_rfl) ⟨rfl,trivial⟩ (by kernel_rfl) (by kernel_rfl) (zvy rfl rfl rfl (zhv tok rfl rfl rfl rfl rfl hv13)) (fun P_1=>?_);obtain⟨v14,hv14,H⟩:=H;refine qai 4 (ei:=[(5,.pointer (some (⟨b8',0,none⟩:Addr)))]) (d:=(some 23)) wf (by kernel_rfl) ⟨rfl,trivial⟩ (by kernel_rfl) (by kernel_rfl) (zvy rfl rfl rfl (zhv tok rfl rfl rfl rfl rfl hv14)) (fun P_4=>?_);refine zvi 2 [1] [1] (ei:=[(20,.agg (arr 17 .u8 v13).toArray)]) zqc (zoe _ _ _ H) wf ⟨P_4,P_1,P_0,trivial⟩ (by kernel_rfl) ⟨rfl,trivial⟩ (by kernel_rfl) rfl rfl rfl rfl rfl ?_;rintro _ h16 ⟨r15,rfl,H⟩;obtain⟨hy17,hy18,H⟩:=H;refine zwg (x:=⟨4,.agg (arr 5 .u64 v14).toArray,[(5,.pointer (some (⟨b8',0,none⟩:Addr)))]⟩) (zvy rfl rfl rfl (zhv tok rfl rfl rfl rfl rfl hy17)) (fun P_4=>?_);refine zwg (x:=⟨0,.agg (arr 5 .u64 v12).toArray,[(6,.pointer (some (⟨b11,0,none⟩:Addr)))]⟩) (zvy rfl rfl rfl (zhv tok rfl rfl rfl rfl rfl hy18)) (fun P_0=>?_);refine zvi 3 [0,1,2] [0,1] (ei:=[(19,.agg (arr 5 .u64 v12).toArray),(21,.agg (arr 5 .u64 r15).toArray)]) zkw (zj6 _ _ _ _ H) wf ⟨P_4,trivial,P_0,trivial⟩ (by kernel_rfl) ⟨rfl,rfl,trivial⟩ (by kernel_rfl) rfl rfl rfl rfl rfl ?_;rintro _ h20 ⟨r19,rfl,H⟩;obtain⟨hy21,H⟩:=H;refine zwg (x:=⟨4,.agg (arr 5 .u64 v14).toArray,[(5,.pointer (some (⟨b8',0,none⟩:Addr)))]⟩) (zvy rfl rfl rfl (zhv tok rfl rfl rfl rfl rfl hy21)) (fun P_4=>?_);refine zvi 5 [0,1,2,3,4] [0,1,4] (ei:=[(22,.agg (arr 5 .u64 r19).toArray),(23,.agg (arr 5 .u64 v14).toArray)]) zjk (zii _ _ _ _ H) wf ⟨P_4,trivial,trivial,trivial⟩ (by kernel_rfl) ⟨rfl,rfl,trivial⟩ (by kernel_rfl) rfl rfl rfl rfl rfl ?_;rintro _ h23 ⟨r22,rfl,H⟩;obtain⟨h24,wh24,eh24,H⟩:=H;refine qlu 6 [0,1,2,3,4,5] [0,1,4] (ei:=[(6,.pointer (some (⟨b11,0,none⟩:Addr))),(24,.agg (arr 5 .u64 r22).toArray)]) wf ⟨trivial,trivial,trivial,trivial⟩ (by kernel_rfl) ⟨rfl,rfl,trivial⟩ (by kernel_rfl) rfl rfl rfl (zrx tok rfl rfl rfl rfl rfl (qin (by kernel_rfl)) wh24 eh24) ?_;refine zsh wf ⟨trivial,trivial,trivial,trivial⟩ (by kernel_rfl) ?_;clear wf P_0 P_1 P_4;intro a3 w3 fa3 fw3;exact⟨rfl,H w3 fw3.os fw3.tape fw3.output fw3.heap⟩
 case hdone =>
  intro D W2 hD hI hK;obtain⟨i1,i2,i3,i4,i5,i6⟩:=hI;rw [hh] at i4 i5 hD
  have ea:({ up [] a with defers:={ target:=.collected D,args:=#[] } :: (up [] a).defers }:Act)=up [{ target:=.collected D,args:=#[] }] a:=by
   have:a.defers=[]:=fa.d
   cases a
   simp at this;subst this;rfl
  rw [ea];have K2:Blk W2.heap b1 (b8 key) 23:=K16.old (i5 b1 (by omega) (by omega));have O2:Blk W2.heap b3 (arr 16 .u8 ([]:List Int)) 373:=O16.old (i5 b3 (by omega) (by omega));have H:zp1 b1 b3 b11 (fun _ h'=>W2.heap.size<=h'.size/\(∀ j,j<W2.heap.size->j≠b3->h'[j]? = W2.heap[j]?)/\Blk h' b3 (arr 16 .u8 out) 373) W2.heap:=zuv lk K2 O2 i6 pf pb pp fun h' s1 s2 s3=>⟨s1,s2,s3⟩
  unfold zp1 at H;refine(show zry Fence.wide 9 [{ target:=.collected D,args:=#[] }] ⟨Go.Proofs.Tryz.prog,30,w,false⟩ _ _ _ W2.heap from ?_) a W2 fa ⟨i1.trans fw.os,i2.trans fw.tape,i3.trans fw.output,rfl,fun h=>by cases h⟩;refine qjz B0 [(2,.pointer (some (⟨b1,0,none⟩:Addr))),(4,.pointer (some (⟨b3,0,none⟩:Addr))),(6,.pointer (some (⟨b11,0,none⟩:Addr)))] (by kernel_rfl) (by kernel_rfl) ⟨rfl,rfl,rfl,trivial⟩ (fun wf=>?_);obtain⟨v7,hv7,H⟩:=H;refine qai 0 (ei:=[(6,.pointer (some (⟨b11,0,none⟩:Addr)))]) (d:=(some 25)) wf (by kernel_rfl) ⟨rfl,trivial⟩ (by kernel_rfl) (by kernel_rfl) (zvy rfl rfl rfl (zhv tok rfl rfl rfl rfl rfl hv7)) (fun P_0=>?_);obtain⟨s8,ps8,qs8,rs8,es8,H⟩:=H;refine qo9 3 (ei:=[(2,.pointer (some (⟨b1,0,none⟩:Addr)))]) (d:=(some 28)) wf (by kernel_rfl) ⟨rfl,trivial⟩ (by kernel_rfl) (by kernel_rfl) (fun _=>qoq rfl rfl rfl (zej (L:=16) (H:=32) tok rfl rfl rfl rfl rfl rfl ps8 qs8 rs8) (congrArg Slc.v es8)) (fun P_3=>?_);refine zvi 1 [0] [0] (ei:=[(25,.agg (arr 5 .u64 v7).toArray)]) zje (zh4 _ _ _ H) wf ⟨P_3 _,P_0,trivial⟩ (by kernel_rfl) ⟨rfl,trivial⟩ (by kernel_rfl) rfl rfl rfl rfl rfl ?_;rintro _ h10 ⟨r9,rfl,H⟩;refine zvi 2 [0,1] [0] (ei:=[(26,.agg (arr 5 .u64 r9).toArray)]) zjh (zih _ _ _ H) wf ⟨P_3 _,trivial,trivial⟩ (by kernel_rfl) ⟨rfl,trivial⟩ (by kernel_rfl) rfl rfl rfl rfl rfl ?_;rintro _ h12 ⟨r11,rfl,H⟩;refine zvi 4 [0,1,2,3] [0,3] (ei:=[(27,.agg (arr 16 .u8 r11).toArray),(28,Slc.v s8)]) zqg (zpa _ _ _ _ H) wf ⟨P_3 _,trivial,trivial⟩ (by kernel_rfl) ⟨rfl,rfl,trivial⟩ (by kernel_rfl) rfl rfl rfl rfl rfl ?_;rintro _ h14 ⟨r13,rfl,H⟩;obtain⟨h15,wh15,eh15,H⟩:=H;refine qlu 5 [0,1,2,3,4] [0,3] (ei:=[(4,.pointer (some (⟨b3,0,none⟩:Addr))),(29,.agg (arr 16 .u8 r13).toArray)]) wf ⟨trivial,trivial,trivial⟩ (by kernel_rfl) ⟨rfl,rfl,trivial⟩ (by kernel_rfl) rfl rfl rfl (zrx tok rfl rfl rfl rfl rfl (qin (by kernel_rfl)) wh15 eh15) ?_;refine zsh wf ⟨trivial,trivial,trivial⟩ (by kernel_rfl) ?_;clear wf P_0 P_3;intro a3 w3 fa3 fw3;obtain⟨s1,s2,s3⟩:=H;refine wpIn_ret ?_
  have hd:(up [{ target:=.collected D,args:=#[] }] a3).defers=[{ target:=.collected D,args:=#[] }]:=by
   show a3.defers++_=_
   rw [fa3.d];rfl
  have hK3:w3.heap[D]? = some (.deferred (some [])):=by
   rw [fw3.heap,s2 D (Array.getElem?_eq_some_iff.1 hK).1 (by omega)];exact hK
  show LeavesInM _ _ _ _ _ _ (up [{ target:=.collected D,args:=#[] }] a3).defers _ _
  rw [hd];refine⟨by simp,.inl ⟨D,_,rfl,run_takeDeferred hK3,?_⟩⟩;have c3:Blk w3.heap b3 (arr 16 .u8 out) 373:=by rw [fw3.heap];exact s3
  obtain⟨lo,hi,c4,_⟩:=c3;have c5:(w3.putObj D (.deferred none)).heap[b3]? = some (.cells (arr 16 .u8 out).toArray 373 (lo,hi)):=(World.putObj_heap_other (by omega)).trans c4;refine⟨.agg (arr 16 .u8 out).toArray,results_cell_row (ty:=373) (p:=4) rfl _ _ b3 373 _ (lo,hi) (.array 16 5) ?_ c5 (by kernel_rfl) rfl ?_,rfl,fw3.os,fw3.tape,fw3.output,?_,fun j hj=>?_⟩
  ·have:=fa3.l 4 _ rfl
   simp [up,Array.getD_eq_getD_getElem?,this]
  ·rw [show (arr 16 .u8 out).toArray.size=16 from by simp [zaj]]
   kernel_rfl
  ·have e1:(w3.putObj D (.deferred none)).heap.size=w3.heap.size:=by simp [World.putObj]
   have e2:=Xz.size;rw [e1,fw3.heap];omega
  ·rw [World.putObj_heap_other (by omega),fw3.heap,s2 j (by omega) (by omega),i5 j (by omega) (by omega)]
   exact Xz.block j hj
end Go.Q.Yo
end

/- A part of the proof of statements of this seat: lemmas, no statement of their own. -/
import Derived.Test.YtmilimlmimckbaaGreatDoorYoZad
import Derived.Laws.StructEq
import Derived.Laws.Externs
import Derived.Lib.Bytealg
import Derived.Test.YtmilimlmimckbaaGreatDoorYoZae
import Derived.Test.YtmilimlmimckbaaGreatDoorYoZaf
set_option linter.unusedVariables false
set_option linter.unusedSimpArgs false
set_option maxRecDepth 100000
set_option maxHeartbeats 1000000
section
namespace Go.Q
section
variable {P:Program} {T:Tab} {e:Env} {h:zaa} {o:Oper}
theorem qn4 {op:BinOp} {t yt:Nat} {x y:Operand} {xs ys:List Value} {b:Bool} (hop:op = .eql∨op = .neq) (ho:o.op = .binOp op t x y yt) (hx:evO e x=some (.agg xs.toArray)) (hy:evO e y=some (.agg ys.toArray))
  (heq:∀ w,(Op.equal t (.agg xs.toArray) (.agg ys.toArray)).run P w = .ok b w) (hg:P.eqGuardType P.depth t=false):Yl P e h o (.bool (if op = .eql then b else !b)):=by
 intro ρ w hA hw;have gd:=fun op x y=>run_eqGuard_agg (P:=P) w op t x y xs.toArray ys.toArray hg;rcases hop with rfl | rfl
 ·simp [execOp,ho,hA _ _ hx,hA _ _ hy,gd,binOp,heq]
 ·simp [execOp,ho,hA _ _ hx,hA _ _ hy,gd,binOp,heq]
theorem qkz {f:FuncId} {as':List Operand} {ts:Array TypeId} {vs:List Value} {v:Value} (hf:∀ w,(callFunc f vs.toArray).run P w = .ok (.value v) w) (ho:o.op = .call { callee:=.value (.func f),args:=as'.toArray,argTypes:=ts }) (hv:evs e as'=some vs):Yl P e h o v:=by
 intro ρ w hA hw;have hm:=zlp hA _ _ hv;simp [execOp,ho,resolve,hA (.func f) (.func (.func f) #[] #[]) rfl,Deferred.ofValue,invoke,hm,hf]
theorem qe5 {f:FuncId} {fn:Func} (s:ByteArray) (c:Int) (hf:P.funcs[f]? = some fn) (hname:(fn.name == "runtime.NumGoroutine")=false) (hb:fn.body.isNone=true) (hn:Extern.findNext fn=none) (he:Extern.find fn=some Extern.BytealgIndexByte.indexByte) (w:World) :
  (callFunc f [.string s,.int .u8 c].toArray).run P w = .ok (.value (.int .i64 (Lib.indexByte s.data.toList c.toNat.toUInt8))) w:=by
 rw [run_callFunc_extern hf hname hb hn he];rw [show ([.string s,.int .u8 c]:List Value).toArray = #[.string s,.int .u8 c] from rfl,Lib.run_indexByteString];rfl
end
end Go.Q
end
section
namespace Go.Q.Yo
def zj5 (t0_1:Slc) (t6_1:Int) (t7_1:Int) (k:(Int × Int)->zaa->Prop) (nx1:(Int × Int)->zaa->Prop) (h_1:zaa):Prop :=
 if (decide (t7_1>=0)) then (∃ a2:Addr,t0_1.a=some a2/\(0:Int)<=t7_1/\t7_1<(t0_1.len:Int)/\(∃ v3:Int,zab h_1 (a2.add (t7_1.toNat*1))=some (.int .u8 v3)/\(∃ x4:Int,x4=(zlj .u64 (shl .u64 t6_1 (8:Int).toNat) (IntKind.u64.wrap v3))/\(∃ x5:Int,x5=(IntKind.i64.wrap (t7_1-1))/\(nx1 (x4,x5) h_1))))) else (k (t6_1,0) h_1)
def zvj (t0_1:Slc) (i6:Int) (i7:Int) (k:(Int × Int)->zaa->Prop) (h:zaa):Prop :=
 ∃(I:(Int × Int)->zaa->Prop) (μ:(Int × Int)->zaa->Nat),I (i6,i7) h/\∀(t6_1:Int) (t7_1:Int) (h:zaa),I (t6_1,t7_1) h->zj5 t0_1 t6_1 t7_1 k (fun s h'=>I s h'/\μ s h'<μ (t6_1,t7_1) h) h
def zlm (p0:Slc) (p1:Int) (k:(Int × Int)->zaa->Prop) (h:zaa):Prop :=
 if ((decide (p1<1))||(decide (p1 > 8))) then (k (0,1) h) else (if (decide ((p0.len:Int)<p1)) then (k (0,2) h) else (∃ x1:Int,x1=(IntKind.i64.wrap (p1-1))/\(zvj p0 0 x1 k h)))
def zas (p0:Int) (p1:Int) (k:(Int)->zaa->Prop) (h:zaa):Prop :=
 ∃ x1:Int,x1=(zbe .u64 (IntKind.u64.wrap p1) 31)/\((0:Int)<=x1/\((0:Int)<=(IntKind.u64.wrap (32-x1))/\(∃ x4:Int,x4=(zlj .u32 (shl .u32 p0 x1.toNat) (shr .u32 p0 (IntKind.u64.wrap (32-x1)).toNat))/\(k x4 h))))
theorem zvl:zad Go.Proofs.Tryz.prog 130:=⟨_,Go.Proofs.Tryz.func130,by kernel_rfl,by kernel_rfl⟩
theorem zn1 (p0:Slc) (p1:Int) (k:(Int × Int)->zaa->Prop) (h:zaa) (H:zlm p0 p1 k h):CallsH Go.Proofs.Tryz.prog 130 #[Slc.v p0,.int .i64 p1] h (fun v h'=>∃ r:Int × Int,v = .tuple #[.int .u64 r.1,.int .i64 r.2]/\k r h'):=by
 refine zg8 (N:=35) Go.Proofs.Tryz.func130 rfl rfl rfl (fun w0=>?_);unfold zlm at H;refine zdy [(0,Slc.v p0),(1,.int .i64 p1)] ⟨rfl,rfl,trivial⟩ ?_;refine zcn ?_;refine zal ?_;refine w_p tok rfl rfl rfl ?_;refine w_p tok rfl rfl rfl ?_;refine zb9 ?_;refine zcr ?_;refine zcn ?_;refine zph ?_;refine zcn ?_;refine zal ?_;refine w_p tok rfl rfl rfl ?_;refine w_p tok rfl rfl rfl ?_;refine w_p tok rfl rfl rfl ?_;refine qcs 3 [(14,.bool ((decide (p1<1))||(decide (p1 > 8)))),(0,Slc.v p0),(1,.int .i64 p1)] ?_ ?_
 ·
  refine w_p tok rfl rfl rfl ?_;refine zb9 ?_;refine zcr ?_;refine qka H rfl (fun H=>?_) (fun H=>?_)
  ·
   refine zcn ?_;refine zal ?_;refine w_p tok rfl rfl rfl ?_;refine w_p tok rfl rfl rfl ?_;refine zb9 ?_;refine zcr ?_;refine zoj ?_;refine qpd ?_;refine qnp ?_;exact x_ret _ rfl _ rfl ⟨(0,1),rfl,H⟩
  ·
   refine zcn ?_;refine zal ?_;refine w_p tok rfl rfl rfl ?_;refine w_p tok rfl rfl rfl ?_;refine w_p tok rfl rfl rfl ?_;refine w_p tok rfl rfl rfl ?_;refine w_p tok rfl rfl rfl ?_;refine zb9 ?_;refine zcr ?_;refine qka H rfl (fun H=>?_) (fun H=>?_)
   ·
    refine zcn ?_;refine zal ?_;refine w_p tok rfl rfl rfl ?_;refine w_p tok rfl rfl rfl ?_;refine zb9 ?_;refine zcr ?_;refine zdy [(4,.int .u64 0),(5,.int .i64 2)] ⟨rfl,rfl,trivial⟩ ?_;refine zoj ?_;refine qpd ?_;refine qnp ?_;exact x_ret _ rfl _ rfl ⟨(0,2),rfl,H⟩
   ·
    refine zua ?_;refine qgf ?_;refine zcr ?_;refine zdy [(0,Slc.v p0),(1,.int .i64 p1)] ⟨rfl,rfl,trivial⟩ ?_;refine zcn ?_;refine zal ?_;refine w_p tok rfl rfl rfl ?_;refine zb9 ?_;refine zcr ?_;refine zcn ?_;refine zcn ?_;refine zal ?_;refine w_p tok rfl rfl rfl ?_;refine w_p tok rfl rfl rfl ?_;obtain⟨x1,ex1,H⟩:=H;refine zdg tok rfl (congrArg (fun z=>(.int .i64 z:Value)) ex1) rfl rfl ?_;refine zb9 ?_;refine zcr ?_;refine zph ?_;obtain⟨I1,μ1,H0,HI⟩:=H;refine qd6 (σ:=Int × Int) (fun(s:Int × Int)=>[(6,.int .u64 s.1),(7,.int .i64 s.2),(0,Slc.v p0)]) I1 μ1 (0,x1) H0 ⟨rfl,rfl,rfl,trivial⟩ ?_;rintro⟨t6_1,t7_1⟩ h_1 H;replace H:=HI t6_1 t7_1 h_1 H;unfold zj5 at H;refine zdy [(6,.int .u64 t6_1),(7,.int .i64 t7_1),(0,Slc.v p0)] ⟨rfl,rfl,rfl,trivial⟩ ?_;refine zcn ?_;refine zcn ?_;refine zal ?_;refine w_p tok rfl rfl rfl ?_;refine w_p tok rfl rfl rfl ?_;refine zb9 ?_;refine zcr ?_;refine qka H rfl (fun H=>?_) (fun H=>?_)
    ·
     refine zua ?_;refine zcr ?_;refine zcn ?_;refine zph ?_;refine zal ?_;refine w_p tok rfl rfl rfl ?_;refine w_p tok rfl rfl rfl ?_;refine w_p tok rfl rfl rfl ?_;refine w_p tok rfl rfl rfl ?_;obtain⟨a2,ha2,la2,ua2,H⟩:=H;refine w_y (za6 tok rfl rfl ha2 rfl rfl rfl la2 ua2) rfl rfl ?_;obtain⟨v3,hv3,H⟩:=H;refine w_y (zbd tok rfl rfl rfl rfl hv3) rfl rfl ?_;refine w_p tok rfl rfl rfl ?_;refine w_p tok rfl rfl rfl ?_;obtain⟨x4,ex4,H⟩:=H;refine zdg tok rfl (congrArg (fun z=>(.int .u64 z:Value)) ex4) rfl rfl ?_;refine zb9 ?_;refine qgf ?_;refine zcr ?_;refine zdy [(6,.int .u64 x4),(7,.int .i64 t7_1),(0,Slc.v p0)] ⟨rfl,rfl,rfl,trivial⟩ ?_;refine zal ?_;refine w_p tok rfl rfl rfl ?_;refine w_p tok rfl rfl rfl ?_;obtain⟨x5,ex5,H⟩:=H;refine zdg tok rfl (congrArg (fun z=>(.int .i64 z:Value)) ex5) rfl rfl ?_;refine zb9 ?_;exact zxg (x4,x5) H ⟨rfl,rfl,rfl,trivial⟩
    ·
     refine qd1 ?_;refine qpe ?_;refine qpe ?_;refine qq1 ?_;refine zcr ?_;refine zcn ?_;refine zal ?_;refine w_p tok rfl rfl rfl ?_;refine w_p tok rfl rfl rfl ?_;refine w_p tok rfl rfl rfl ?_;refine zb9 ?_;refine zcr ?_;refine zoj ?_;exact x_ret _ rfl _ rfl ⟨(t6_1,0),rfl,H⟩
 ·
  refine qol (d:=11) rfl (fun hb=>?_) (fun hb=>?_)
  ·
   refine zv8 rfl rfl ?_;refine zv8 rfl rfl ?_;refine w_p tok rfl rfl rfl ?_;refine qm8 () rfl ⟨?_,rfl,rfl,trivial⟩;exact congrArg (fun b=>some (Value.bool b)) (zy2 hb)
  ·
   refine w_p tok rfl rfl rfl ?_;refine w_p tok rfl rfl rfl ?_;refine w_p tok rfl rfl rfl ?_;refine qm8 () rfl ⟨?_,rfl,rfl,trivial⟩;exact congrArg (fun b=>some (Value.bool b)) (zzn hb)
theorem za4:zad Go.Proofs.Tryz.prog 322:=⟨_,Go.Proofs.Tryz.func322,by kernel_rfl,by kernel_rfl⟩
theorem za0 (p0:Int) (p1:Int) (k:(Int)->zaa->Prop) (h:zaa) (H:zas p0 p1 k h):CallsH Go.Proofs.Tryz.prog 322 #[.int .u32 p0,.int .i64 p1] h (fun v h'=>∃ r:Int,v = .int .u32 r/\k r h'):=by
 refine zg8 (N:=17) Go.Proofs.Tryz.func322 rfl rfl rfl (fun w0=>?_);unfold zas at H;refine zdy [(0,.int .u32 p0),(1,.int .i64 p1)] ⟨rfl,rfl,trivial⟩ ?_;refine zcn ?_;refine zal ?_;refine w_p tok rfl rfl rfl ?_;refine zb9 ?_;refine zcr ?_;refine zcn ?_;refine zal ?_;refine w_p tok rfl rfl rfl ?_;refine w_p tok rfl rfl rfl ?_;refine w_p tok rfl rfl rfl ?_;obtain⟨x1,ex1,H⟩:=H;refine zdg tok rfl (congrArg (fun z=>(.int .u64 z:Value)) ex1) rfl rfl ?_;refine zb9 ?_;refine zcr ?_;refine zcn ?_;refine zal ?_;refine w_p tok rfl rfl rfl ?_;refine w_p tok rfl rfl rfl ?_;obtain⟨z2,H⟩:=H;refine w_y (zvq rfl rfl rfl z2) rfl rfl ?_;refine w_p tok rfl rfl rfl ?_;refine w_p tok rfl rfl rfl ?_;refine w_p tok rfl rfl rfl ?_;obtain⟨z3,H⟩:=H;refine w_y (zzy rfl rfl rfl z3) rfl rfl ?_;refine w_p tok rfl rfl rfl ?_;obtain⟨x4,ex4,H⟩:=H;refine zdg tok rfl (congrArg (fun z=>(.int .u32 z:Value)) ex4) rfl rfl ?_;refine zb9 ?_;refine zcr ?_;refine zdy [(4,.int .u32 x4)] ⟨rfl,trivial⟩ ?_;refine zoj ?_;exact x_ret _ rfl _ rfl ⟨x4,rfl,H⟩
end Go.Q.Yo
end

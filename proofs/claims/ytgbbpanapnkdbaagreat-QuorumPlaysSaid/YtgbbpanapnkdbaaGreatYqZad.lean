/- A part of the proof of statements of this seat: lemmas, no statement of their own. -/
import Derived.Test.YtgbbpanapnkdbaaGreatYqZac
import Derived.OpenShut
import Derived.Test.YtgbbpanapnkdbaaGreatYqZab
import Derived.Laws.BytesString
import Derived.Test.YtgbbpanapnkdbaaGreatProg
set_option linter.unusedVariables false
set_option linter.unusedSimpArgs false
set_option maxRecDepth 100000
section
/- Arguments that came in; the way from a walk to the row's own words. -/
namespace Go.Q
open Go.RowKit
theorem wf_i64 {n:Int} (h:(Lit.int .i64 n).wf=true):-9223372036854775808<=n/\n < 9223372036854775808:=by
 simp [Lit.wf,IntKind.min,IntKind.max,IntKind.signed,IntKind.bits] at h; omega
/-- from the walk to the row: a law answers true and has written nothing that was there -/
theorem law_calls {P:Program} {f:FuncId} {args:Array Value} {w:World}
  (H:CallsH P f args w.heap fun v h'=>∃ r:Bool,v = .bool r/\r=true/\Ext w.heap.size w.heap h') :
  Calls P f args w fun e w'=>e = .returned (.bool true)/\Below w.heap.size w w' :=
 (H w rfl).mono fun e w' ⟨v,he,hw,r,hv,hr,hx⟩=>by
  subst hr; subst hv
  exact ⟨he,hw.os,hw.tape,hw.output,hx.size,hx.block⟩
end Go.Q
end
section
/- Numbers and rows of bytes: plain laws. -/
namespace Go.Q
abbrev b8 (l:List Int):List Value:=l.map (Value.int .u8)
theorem wU8 (n:Int):IntKind.u8.wrap n=n % 256:=by unfold IntKind.wrap; simp [IntKind.signed,IntKind.bits]
theorem QP (n:Int):IntKind.u64.wrap n=n % 18446744073709551616:=by unfold IntKind.wrap; simp [IntKind.signed,IntKind.bits]
/-! bitwise, on naturals -/
theorem LM (n a:Nat) (ha:a < 2 ^ n):(BitVec.ofInt n (a:Int)).toNat=a:=by
 rw [BitVec.toNat_ofInt,← Int.natCast_emod,Int.toNat_natCast,Nat.mod_eq_of_lt ha]
theorem Nr (n a b:Nat) (ha:a < 2 ^ n) (hb:b < 2 ^ n):(BitVec.ofInt n (a:Int) &&& BitVec.ofInt n (b:Int)).toNat=a &&& b:=by
 rw [BitVec.toNat_and,LM n a ha,LM n b hb]
end Go.Q
end
section
/- Strings and slices of bytes; copy. -/
namespace Go.Q
section
variable {P:Program} {T:Tab} {e:Env} {h:Heap} {o:Oper}
end
/-! ### arrays of numbers, each place written out -/
def Ny (k:IntKind) (l:List Int):Nat->Nat->List Value
 | 0,_=>[]
 | n + 1,i=>Value.int k (l.getD i 0) :: Ny k l n (i + 1)
def arr (n:Nat) (k:IntKind) (l:List Int):List Value:=Ny k l n 0
def nrm (n:Nat) (l:List Int):List Int:=(List.range n).map fun i=>l.getD i 0
theorem Ie (k:IntKind) (l:List Int):∀ n i,Ny k l n i=(List.range n).map fun j=>Value.int k (l.getD (i + j) 0)
 | 0,i=>rfl
 | n + 1,i=>by
  rw [Ny,Ie k l n (i + 1),List.range_succ_eq_map]
  simp only [List.map_cons,List.map_map,Nat.add_zero]
  congr 1
  apply List.map_congr_left
  intro j _
  simp only [Function.comp,Nat.succ_eq_add_one]
  rw [show i + 1 + j=i + (j + 1) from by omega]
theorem Jv (n:Nat) (k:IntKind) (l:List Int):arr n k l=(nrm n l).map (Value.int k):=by
 rw [arr,Ie,nrm,List.map_map]
 apply List.map_congr_left
 intro j _
 simp
theorem MU (n:Nat) (l:List Int):(nrm n l).length=n:=by simp [nrm]
theorem NG (n:Nat) (l:List Int) {i:Nat} (hi:i < n):(nrm n l)[i]? = some (l.getD i 0):=by
 simp [nrm,hi]
theorem OO {n:Nat} {l:List Int} (h:l.length=n):nrm n l=l:=by
 apply List.ext_getElem?
 intro i
 by_cases hi:i < n
 ·rw [NG n l hi,List.getElem?_eq_getElem (by omega),List.getD_eq_getElem?_getD,List.getElem?_eq_getElem (by omega)]; rfl
 ·rw [List.getElem?_eq_none (by rw [MU]; omega),List.getElem?_eq_none (by omega)]
theorem Ph {n:Nat} {k:IntKind} {l:List Int} (h:l.length=n):arr n k l=l.map (Value.int k):=by rw [Jv,OO h]
theorem yV {l:List Value} (h:l.all (fun v=>v.oneCell')=true):∀ v∈l,v.oneCell'=true:=fun v hv=>List.all_eq_true.1 h v hv
section
variable {P:Program} {T:Tab} {e:Env} {h:Heap} {o:Oper}
end
/-! ### functions as values -/
theorem Po (vs cap:List Value):(#[] ++ vs.toArray ++ cap.toArray:Array Value)=(vs ++ cap).toArray:=by simp
theorem JO {c:Cx} {lops:List Oper} {Q:Exit->Act->World->Prop} {K:Act->World->Prop} {l:List Oper} {e:Env} {h:Heap} {o:Oper} {f:FuncId} {x:Operand} {as':List Operand} {ts:Array TypeId} {vs cap:List Value} {Φ:Value->Heap->Prop}
  (hf:aF c.P f) (hc:CallsHD c.D c.P f (vs ++ cap).toArray h Φ) (ho:o.op = .call { callee:=.value x,args:=as'.toArray,argTypes:=ts }) (hx:evO e x=some (.func (.func f) #[] cap.toArray)) (hv:evs e as'=some vs) (hw:wnt lops e o=some true) (hd:dOk c.N o.dst=true)
  (H:∀ v h',Φ v h'->gop c lops Q K l (pu e o.dst v) h'):gop c lops Q K (o :: l) e h:=by
 have:=GN (P:=c.P) (e:=e) (o:=o) hf ho hx hv
 rw [Po] at this
 exact w_c hc this hw hd H
theorem JK {P:Program} {e:Env} {h:Heap} {o:Oper} {fn:Fn} {as':List Operand} {vs:List Value} (ho:o.op = .makeFunc fn #[] as'.toArray) (hv:evs e as'=some vs):Yl P e h o (.func fn #[] vs.toArray):=by
 intro ρ w hA hw
 have hm:=EE hA _ _ hv
 simp [execOp,ho,Instr.makeFunc,hm]
end Go.Q
end
section
namespace Go.Q.Yq
structure aC where
 dF:ByteArray
 pK:Int
 FE:Int
 aW:Int
 aX:Int
def aC.cs (x:aC):List Value:=[.string x.dF,.int .i64 x.pK,.int .i64 x.FE,.int .i64 x.aW,.int .i64 x.aX]
structure aT where
 aJ:Int
 qx:ByteArray
 JU:Int
 EC:List Int
 dD:Slc
 F3:Int
def aT.cs (x:aT):List Value:=[.int .i64 x.aJ,.string x.qx,.int .u32 x.JU] ++ (arr 12 .u8 x.EC) ++ [Slc.v x.dD,.int .i64 x.F3]
structure aj where
 f_N:Int
 aJ:Int
 qx:ByteArray
 aP:Slc
 f_Q:aC
 oM:aT
 kX:Int
 aQ:Slc
 eD:Slc
 cZ:Int
 aI:Bool
 f_E:Int
 dV:Slc
def aj.cs (x:aj):List Value:=[.int .u64 x.f_N,.int .i64 x.aJ,.string x.qx,Slc.v x.aP] ++ (aC.cs x.f_Q) ++ (aT.cs x.oM) ++ [.int .i64 x.kX,Slc.v x.aQ,Slc.v x.eD,.int .i64 x.cZ,.bool x.aI,.int .i64 x.f_E,Slc.v x.dV]
structure S_quaestorlaw31_Act where
 aJ:Int
 f_O:aj
 f_N:Int
 aR:Int
 f_L:Slc
 f_E:Int
def S_quaestorlaw31_Act.cs (x:S_quaestorlaw31_Act):List Value:=[.int .i64 x.aJ] ++ (aj.cs x.f_O) ++ [.int .u64 x.f_N,.int .i64 x.aR,Slc.v x.f_L,.int .i64 x.f_E]
structure mh where
 f_L:Slc
def mh.cs (x:mh):List Value:=[Slc.v x.f_L]
structure tJ where
 Qs:Option Nat
def tJ.cs (x:tJ):List Value:=[.map x.Qs]
structure aY where
 f_N:Int
 aR:Int
def aY.cs (x:aY):List Value:=[.int .u64 x.f_N,.int .i64 x.aR]
structure aG where
 f_N:Int
 aR:Int
def aG.cs (x:aG):List Value:=[.int .u64 x.f_N,.int .u16 x.aR]
structure ae where
 ak:ByteArray
 f_T:Int
 f_V:Int
 dB:aG
def ae.cs (x:ae):List Value:=[.string x.ak,.int .i64 x.f_T,.int .i64 x.f_V] ++ (aG.cs x.dB)
structure aK where
 qg:ByteArray
 f_t:Int
def aK.cs (x:aK):List Value:=[.string x.qg,.int .i64 x.f_t]
structure au where
 mH:Int
 nA:Int
def au.cs (x:au):List Value:=[.int .i64 x.mH,.int .u64 x.nA]
structure aH where
 ak:ByteArray
 f_T:Int
 f_W:au
def aH.cs (x:aH):List Value:=[.string x.ak,.int .i64 x.f_T] ++ (au.cs x.f_W)
structure af where
 qG:ByteArray
 f_L:Slc
def af.cs (x:af):List Value:=[.string x.qG,Slc.v x.f_L]
structure ay where
 qG:ByteArray
 KW:Slc
def ay.cs (x:ay):List Value:=[.string x.qG,Slc.v x.KW]
structure az where
 qG:ByteArray
 OQ:Int
 rP:ByteArray
def az.cs (x:az):List Value:=[.string x.qG,.int .i64 x.OQ,.string x.rP]
structure aD where
 qG:ByteArray
 rP:ByteArray
def aD.cs (x:aD):List Value:=[.string x.qG,.string x.rP]
def tab:Tab:=[
 (1,⟨.func,1,8,[.nilFunc]⟩),
 (2,⟨.int .i64,1,8,[.int .i64 0]⟩),
 (3,⟨.int .i64,1,8,[.int .i64 0]⟩),
 (4,⟨.bool,1,1,[.bool false]⟩),
 (5,⟨.int .u8,1,1,[.int .u8 0]⟩),
 (6,⟨.int .u8,1,1,[.int .u8 0]⟩),
 (7,⟨.struct [(2,0),(3,1),(4,2),(6,3)],4,24,[.int .i64 0,.int .i64 0,.bool false,.int .u8 0]⟩),
 (8,⟨.struct [(2,0),(3,1),(4,2),(6,3)],4,24,[.int .i64 0,.int .i64 0,.bool false,.int .u8 0]⟩),
 (9,⟨.string,1,16,[.string ByteArray.empty]⟩),
 (10,⟨.string,1,16,[.string ByteArray.empty]⟩),
 (11,⟨.string,1,16,[.string ByteArray.empty]⟩),
 (12,⟨.int .u64,1,8,[.int .u64 0]⟩),
 (13,⟨.struct [(9,0),(12,1)],2,24,[.string ByteArray.empty,.int .u64 0]⟩),
 (14,⟨.struct [(9,0),(12,1)],2,24,[.string ByteArray.empty,.int .u64 0]⟩),
 (15,⟨.pointer 238,1,8,[.pointer none]⟩),
 (16,⟨.pointer 241,1,8,[.pointer none]⟩),
 (17,⟨.pointer 250,1,8,[.pointer none]⟩),
 (18,⟨.struct [(17,0)],1,8,[.pointer none]⟩),
 (19,⟨.struct [(17,0)],1,8,[.pointer none]⟩),
 (20,⟨.iface,1,16,[.nilIface]⟩),
 (21,⟨.int .i32,1,4,[.int .i32 0]⟩),
 (22,⟨.slice 41,1,24,[.slice none 0 0]⟩),
 (23,⟨.pointer 63,1,8,[.pointer none]⟩),
 (24,⟨.func,1,8,[.nilFunc]⟩),
 (25,⟨.int .u64,1,8,[.int .u64 0]⟩),
 (26,⟨.slice 89,1,24,[.slice none 0 0]⟩),
 (27,⟨.struct [(9,0),(2,1),(2,2),(3,3),(2,4)],5,48,[.string ByteArray.empty,.int .i64 0,.int .i64 0,.int .i64 0,.int .i64 0]⟩),
 (28,⟨.struct [(9,0),(2,1),(2,2),(3,3),(2,4)],5,48,[.string ByteArray.empty,.int .i64 0,.int .i64 0,.int .i64 0,.int .i64 0]⟩),
 (29,⟨.int .u32,1,4,[.int .u32 0]⟩),
 (30,⟨.array 12 5,12,12,[.int .u8 0,.int .u8 0,.int .u8 0,.int .u8 0,.int .u8 0,.int .u8 0,.int .u8 0,.int .u8 0,.int .u8 0,.int .u8 0,.int .u8 0,.int .u8 0]⟩),
 (31,⟨.array 12 5,12,12,[.int .u8 0,.int .u8 0,.int .u8 0,.int .u8 0,.int .u8 0,.int .u8 0,.int .u8 0,.int .u8 0,.int .u8 0,.int .u8 0,.int .u8 0,.int .u8 0]⟩),
 (32,⟨.slice 5,1,24,[.slice none 0 0]⟩),
 (33,⟨.struct [(3,0),(9,1),(29,2),(31,3),(32,15),(2,16)],17,72,[.int .i64 0,.string ByteArray.empty,.int .u32 0,.int .u8 0,.int .u8 0,.int .u8 0,.int .u8 0,.int .u8 0,.int .u8 0,.int .u8 0,.int .u8 0,.int .u8 0,.int .u8 0,.int .u8 0,.int .u8 0,.slice none 0 0,.int .i64 0]⟩),
 (34,⟨.struct [(3,0),(9,1),(29,2),(31,3),(32,15),(2,16)],17,72,[.int .i64 0,.string ByteArray.empty,.int .u32 0,.int .u8 0,.int .u8 0,.int .u8 0,.int .u8 0,.int .u8 0,.int .u8 0,.int .u8 0,.int .u8 0,.int .u8 0,.int .u8 0,.int .u8 0,.int .u8 0,.slice none 0 0,.int .i64 0]⟩),
 (35,⟨.slice 3,1,24,[.slice none 0 0]⟩),
 (36,⟨.int .i64,1,8,[.int .i64 0]⟩),
 (37,⟨.slice 118,1,24,[.slice none 0 0]⟩),
 (38,⟨.struct [(25,0),(3,1),(9,2),(26,3),(28,4),(34,9),(2,26),(35,27),(35,28),(3,29),(4,30),(36,31),(37,32)],33,280,[.int .u64 0,.int .i64 0,.string ByteArray.empty,.slice none 0 0,.string ByteArray.empty,.int .i64 0,.int .i64 0,.int .i64 0,.int .i64 0,.int .i64 0,.string ByteArray.empty,.int .u32 0,.int .u8 0,.int .u8 0,.int .u8 0,.int .u8 0,.int .u8 0,.int .u8 0,.int .u8 0,.int .u8 0,.int .u8 0,.int .u8 0,.int .u8 0,.int .u8 0,.slice none 0 0,.int .i64 0,.int .i64 0,.slice none 0 0,.slice none 0 0,.int .i64 0,.bool false,.int .i64 0,.slice none 0 0]⟩),
 (39,⟨.struct [(25,0),(3,1),(9,2),(26,3),(28,4),(34,9),(2,26),(35,27),(35,28),(3,29),(4,30),(36,31),(37,32)],33,280,[.int .u64 0,.int .i64 0,.string ByteArray.empty,.slice none 0 0,.string ByteArray.empty,.int .i64 0,.int .i64 0,.int .i64 0,.int .i64 0,.int .i64 0,.string ByteArray.empty,.int .u32 0,.int .u8 0,.int .u8 0,.int .u8 0,.int .u8 0,.int .u8 0,.int .u8 0,.int .u8 0,.int .u8 0,.int .u8 0,.int .u8 0,.int .u8 0,.int .u8 0,.slice none 0 0,.int .i64 0,.int .i64 0,.slice none 0 0,.slice none 0 0,.int .i64 0,.bool false,.int .i64 0,.slice none 0 0]⟩),
 (40,⟨.struct [(3,0),(39,1),(25,34),(3,35),(26,36),(36,37)],38,336,[.int .i64 0,.int .u64 0,.int .i64 0,.string ByteArray.empty,.slice none 0 0,.string ByteArray.empty,.int .i64 0,.int .i64 0,.int .i64 0,.int .i64 0,.int .i64 0,.string ByteArray.empty,.int .u32 0,.int .u8 0,.int .u8 0,.int .u8 0,.int .u8 0,.int .u8 0,.int .u8 0,.int .u8 0,.int .u8 0,.int .u8 0,.int .u8 0,.int .u8 0,.int .u8 0,.slice none 0 0,.int .i64 0,.int .i64 0,.slice none 0 0,.slice none 0 0,.int .i64 0,.bool false,.int .i64 0,.slice none 0 0,.int .u64 0,.int .i64 0,.slice none 0 0,.int .i64 0]⟩),
 (41,⟨.struct [(3,0),(39,1),(25,34),(3,35),(26,36),(36,37)],38,336,[.int .i64 0,.int .u64 0,.int .i64 0,.string ByteArray.empty,.slice none 0 0,.string ByteArray.empty,.int .i64 0,.int .i64 0,.int .i64 0,.int .i64 0,.int .i64 0,.string ByteArray.empty,.int .u32 0,.int .u8 0,.int .u8 0,.int .u8 0,.int .u8 0,.int .u8 0,.int .u8 0,.int .u8 0,.int .u8 0,.int .u8 0,.int .u8 0,.int .u8 0,.int .u8 0,.slice none 0 0,.int .i64 0,.int .i64 0,.slice none 0 0,.slice none 0 0,.int .i64 0,.bool false,.int .i64 0,.slice none 0 0,.int .u64 0,.int .i64 0,.slice none 0 0,.int .i64 0]⟩),
 (42,⟨.func,1,8,[.nilFunc]⟩),
 (43,⟨.func,1,8,[.nilFunc]⟩),
 (44,⟨.slice 39,1,24,[.slice none 0 0]⟩),
 (46,⟨.func,1,8,[.nilFunc]⟩),
 (47,⟨.func,1,8,[.nilFunc]⟩),
 (48,⟨.func,1,8,[.nilFunc]⟩),
 (49,⟨.func,1,8,[.nilFunc]⟩),
 (50,⟨.func,1,8,[.nilFunc]⟩),
 (51,⟨.func,1,8,[.nilFunc]⟩),
 (52,⟨.func,1,8,[.nilFunc]⟩),
 (53,⟨.pointer 55,1,8,[.pointer none]⟩),
 (54,⟨.struct [(44,0)],1,24,[.slice none 0 0]⟩),
 (55,⟨.struct [(44,0)],1,24,[.slice none 0 0]⟩),
 (56,⟨.func,1,8,[.nilFunc]⟩),
 (57,⟨.func,1,8,[.nilFunc]⟩),
 (58,⟨.slice 84,1,24,[.slice none 0 0]⟩),
 (59,⟨.func,1,8,[.nilFunc]⟩),
 (60,⟨.func,1,8,[.nilFunc]⟩),
 (61,⟨.map 25 65,1,8,[.map none]⟩),
 (62,⟨.struct [(61,0)],1,8,[.map none]⟩),
 (63,⟨.struct [(61,0)],1,8,[.map none]⟩),
 (64,⟨.func,1,8,[.nilFunc]⟩),
 (65,⟨.pointer 39,1,8,[.pointer none]⟩),
 (67,⟨.func,1,8,[.nilFunc]⟩),
 (68,⟨.func,1,8,[.nilFunc]⟩),
 (69,⟨.func,1,8,[.nilFunc]⟩),
 (71,⟨.func,1,8,[.nilFunc]⟩),
 (72,⟨.func,1,8,[.nilFunc]⟩),
 (73,⟨.slice 25,1,24,[.slice none 0 0]⟩),
 (74,⟨.func,1,8,[.nilFunc]⟩),
 (75,⟨.func,1,8,[.nilFunc]⟩),
 (76,⟨.func,1,8,[.nilFunc]⟩),
 (77,⟨.func,1,8,[.nilFunc]⟩),
 (78,⟨.func,1,8,[.nilFunc]⟩),
 (79,⟨.func,1,8,[.nilFunc]⟩),
 (80,⟨.func,1,8,[.nilFunc]⟩),
 (82,⟨.func,1,8,[.nilFunc]⟩),
 (83,⟨.struct [(25,0),(3,1)],2,16,[.int .u64 0,.int .i64 0]⟩),
 (84,⟨.struct [(25,0),(3,1)],2,16,[.int .u64 0,.int .i64 0]⟩),
 (85,⟨.int .u16,1,2,[.int .u16 0]⟩),
 (86,⟨.struct [(25,0),(85,1)],2,16,[.int .u64 0,.int .u16 0]⟩),
 (87,⟨.struct [(25,0),(85,1)],2,16,[.int .u64 0,.int .u16 0]⟩),
 (88,⟨.struct [(9,0),(2,1),(2,2),(87,3)],5,48,[.string ByteArray.empty,.int .i64 0,.int .i64 0,.int .u64 0,.int .u16 0]⟩),
 (89,⟨.struct [(9,0),(2,1),(2,2),(87,3)],5,48,[.string ByteArray.empty,.int .i64 0,.int .i64 0,.int .u64 0,.int .u16 0]⟩),
 (90,⟨.func,1,8,[.nilFunc]⟩),
 (91,⟨.slice 26,1,24,[.slice none 0 0]⟩),
 (92,⟨.map 95 89,1,8,[.map none]⟩),
 (93,⟨.func,1,8,[.nilFunc]⟩),
 (94,⟨.struct [(9,0),(2,1)],2,24,[.string ByteArray.empty,.int .i64 0]⟩),
 (95,⟨.struct [(9,0),(2,1)],2,24,[.string ByteArray.empty,.int .i64 0]⟩),
 (97,⟨.func,1,8,[.nilFunc]⟩),
 (98,⟨.func,1,8,[.nilFunc]⟩),
 (99,⟨.func,1,8,[.nilFunc]⟩),
 (100,⟨.func,1,8,[.nilFunc]⟩),
 (101,⟨.func,1,8,[.nilFunc]⟩),
 (102,⟨.func,1,8,[.nilFunc]⟩),
 (103,⟨.func,1,8,[.nilFunc]⟩),
 (104,⟨.func,1,8,[.nilFunc]⟩),
 (106,⟨.func,1,8,[.nilFunc]⟩),
 (107,⟨.func,1,8,[.nilFunc]⟩),
 (108,⟨.func,1,8,[.nilFunc]⟩),
 (109,⟨.func,1,8,[.nilFunc]⟩),
 (110,⟨.func,1,8,[.nilFunc]⟩),
 (111,⟨.func,1,8,[.nilFunc]⟩),
 (112,⟨.func,1,8,[.nilFunc]⟩),
 (113,⟨.func,1,8,[.nilFunc]⟩),
 (114,⟨.func,1,8,[.nilFunc]⟩),
 (115,⟨.struct [(2,0),(25,1)],2,16,[.int .i64 0,.int .u64 0]⟩),
 (116,⟨.struct [(2,0),(25,1)],2,16,[.int .i64 0,.int .u64 0]⟩),
 (117,⟨.struct [(9,0),(2,1),(116,2)],4,40,[.string ByteArray.empty,.int .i64 0,.int .i64 0,.int .u64 0]⟩),
 (118,⟨.struct [(9,0),(2,1),(116,2)],4,40,[.string ByteArray.empty,.int .i64 0,.int .i64 0,.int .u64 0]⟩),
 (119,⟨.func,1,8,[.nilFunc]⟩),
 (120,⟨.func,1,8,[.nilFunc]⟩),
 (121,⟨.func,1,8,[.nilFunc]⟩),
 (122,⟨.func,1,8,[.nilFunc]⟩),
 (123,⟨.func,1,8,[.nilFunc]⟩),
 (125,⟨.func,1,8,[.nilFunc]⟩),
 (126,⟨.func,1,8,[.nilFunc]⟩),
 (127,⟨.func,1,8,[.nilFunc]⟩),
 (129,⟨.func,1,8,[.nilFunc]⟩),
 (130,⟨.func,1,8,[.nilFunc]⟩),
 (131,⟨.func,1,8,[.nilFunc]⟩),
 (132,⟨.func,1,8,[.nilFunc]⟩),
 (133,⟨.func,1,8,[.nilFunc]⟩),
 (134,⟨.func,1,8,[.nilFunc]⟩),
 (135,⟨.func,1,8,[.nilFunc]⟩),
 (136,⟨.func,1,8,[.nilFunc]⟩),
 (137,⟨.slice 174,1,24,[.slice none 0 0]⟩),
 (138,⟨.struct [(9,0),(137,1)],2,40,[.string ByteArray.empty,.slice none 0 0]⟩),
 (139,⟨.struct [(9,0),(137,1)],2,40,[.string ByteArray.empty,.slice none 0 0]⟩),
 (141,⟨.func,1,8,[.nilFunc]⟩),
 (142,⟨.map 9 4,1,8,[.map none]⟩),
 (143,⟨.func,1,8,[.nilFunc]⟩),
 (145,⟨.slice 178,1,24,[.slice none 0 0]⟩),
 (146,⟨.struct [(9,0),(145,1)],2,40,[.string ByteArray.empty,.slice none 0 0]⟩),
 (147,⟨.struct [(9,0),(145,1)],2,40,[.string ByteArray.empty,.slice none 0 0]⟩),
 (149,⟨.func,1,8,[.nilFunc]⟩),
 (150,⟨.func,1,8,[.nilFunc]⟩),
 (151,⟨.func,1,8,[.nilFunc]⟩),
 (152,⟨.func,1,8,[.nilFunc]⟩),
 (154,⟨.func,1,8,[.nilFunc]⟩),
 (155,⟨.func,1,8,[.nilFunc]⟩),
 (156,⟨.func,1,8,[.nilFunc]⟩),
 (157,⟨.func,1,8,[.nilFunc]⟩),
 (159,⟨.func,1,8,[.nilFunc]⟩),
 (161,⟨.func,1,8,[.nilFunc]⟩),
 (162,⟨.func,1,8,[.nilFunc]⟩),
 (163,⟨.func,1,8,[.nilFunc]⟩),
 (164,⟨.func,1,8,[.nilFunc]⟩),
 (165,⟨.func,1,8,[.nilFunc]⟩),
 (166,⟨.func,1,8,[.nilFunc]⟩),
 (167,⟨.int .u64,1,8,[.int .u64 0]⟩),
 (168,⟨.func,1,8,[.nilFunc]⟩),
 (170,⟨.func,1,8,[.nilFunc]⟩),
 (172,⟨.func,1,8,[.nilFunc]⟩),
 (173,⟨.struct [(9,0),(3,1),(9,2)],3,40,[.string ByteArray.empty,.int .i64 0,.string ByteArray.empty]⟩),
 (174,⟨.struct [(9,0),(3,1),(9,2)],3,40,[.string ByteArray.empty,.int .i64 0,.string ByteArray.empty]⟩),
 (176,⟨.func,1,8,[.nilFunc]⟩),
 (177,⟨.struct [(9,0),(9,1)],2,32,[.string ByteArray.empty,.string ByteArray.empty]⟩),
 (178,⟨.struct [(9,0),(9,1)],2,32,[.string ByteArray.empty,.string ByteArray.empty]⟩),
 (179,⟨.func,1,8,[.nilFunc]⟩),
 (180,⟨.func,1,8,[.nilFunc]⟩),
 (181,⟨.func,1,8,[.nilFunc]⟩),
 (182,⟨.func,1,8,[.nilFunc]⟩),
 (184,⟨.func,1,8,[.nilFunc]⟩),
 (186,⟨.func,1,8,[.nilFunc]⟩),
 (187,⟨.func,1,8,[.nilFunc]⟩),
 (188,⟨.func,1,8,[.nilFunc]⟩),
 (189,⟨.func,1,8,[.nilFunc]⟩),
 (190,⟨.slice 9,1,24,[.slice none 0 0]⟩),
 (192,⟨.func,1,8,[.nilFunc]⟩),
 (193,⟨.func,1,8,[.nilFunc]⟩),
 (194,⟨.func,1,8,[.nilFunc]⟩),
 (195,⟨.int .i64,1,8,[.int .i64 0]⟩),
 (197,⟨.func,1,8,[.nilFunc]⟩),
 (198,⟨.func,1,8,[.nilFunc]⟩),
 (199,⟨.func,1,8,[.nilFunc]⟩),
 (201,⟨.func,1,8,[.nilFunc]⟩),
 (202,⟨.func,1,8,[.nilFunc]⟩),
 (203,⟨.func,1,8,[.nilFunc]⟩),
 (204,⟨.func,1,8,[.nilFunc]⟩),
 (205,⟨.func,1,8,[.nilFunc]⟩),
 (206,⟨.func,1,8,[.nilFunc]⟩),
 (207,⟨.func,1,8,[.nilFunc]⟩),
 (208,⟨.func,1,8,[.nilFunc]⟩),
 (209,⟨.func,1,8,[.nilFunc]⟩),
 (211,⟨.func,1,8,[.nilFunc]⟩),
 (212,⟨.func,1,8,[.nilFunc]⟩),
 (213,⟨.func,1,8,[.nilFunc]⟩),
 (214,⟨.func,1,8,[.nilFunc]⟩),
 (215,⟨.func,1,8,[.nilFunc]⟩),
 (216,⟨.func,1,8,[.nilFunc]⟩),
 (217,⟨.func,1,8,[.nilFunc]⟩),
 (218,⟨.int .u64,1,8,[.int .u64 0]⟩),
 (219,⟨.func,1,8,[.nilFunc]⟩),
 (220,⟨.func,1,8,[.nilFunc]⟩),
 (221,⟨.func,1,8,[.nilFunc]⟩),
 (222,⟨.pointer 3,1,8,[.pointer none]⟩),
 (223,⟨.func,1,8,[.nilFunc]⟩),
 (224,⟨.func,1,8,[.nilFunc]⟩),
 (225,⟨.func,1,8,[.nilFunc]⟩),
 (226,⟨.func,1,8,[.nilFunc]⟩),
 (227,⟨.func,1,8,[.nilFunc]⟩),
 (228,⟨.func,1,8,[.nilFunc]⟩),
 (229,⟨.pointer 218,1,8,[.pointer none]⟩),
 (231,⟨.func,1,8,[.nilFunc]⟩),
 (232,⟨.func,1,8,[.nilFunc]⟩),
 (233,⟨.func,1,8,[.nilFunc]⟩),
 (235,⟨.func,1,8,[.nilFunc]⟩),
 (236,⟨.func,1,8,[.nilFunc]⟩),
 (237,⟨.struct [(17,0),(17,1),(17,2),(9,3)],4,40,[.pointer none,.pointer none,.pointer none,.string ByteArray.empty]⟩),
 (238,⟨.struct [(17,0),(17,1),(17,2),(9,3)],4,40,[.pointer none,.pointer none,.pointer none,.string ByteArray.empty]⟩),
 (239,⟨.array 0 16,0,0,[]⟩),
 (240,⟨.struct [(239,0)],0,0,[]⟩),
 (241,⟨.struct [(239,0)],0,0,[]⟩),
 (242,⟨.func,1,8,[.nilFunc]⟩),
 (243,⟨.int .u8,1,1,[.int .u8 0]⟩),
 (244,⟨.int .u8,1,1,[.int .u8 0]⟩),
 (245,⟨.func,1,8,[.nilFunc]⟩),
 (246,⟨.pointer 5,1,8,[.pointer none]⟩),
 (247,⟨.int .i32,1,4,[.int .i32 0]⟩),
 (248,⟨.int .i32,1,4,[.int .i32 0]⟩),
 (249,⟨.struct [(12,0),(12,1),(29,2),(243,3),(5,4),(5,5),(244,6),(245,7),(246,8),(247,9),(248,10)],11,48,[.int .u64 0,.int .u64 0,.int .u32 0,.int .u8 0,.int .u8 0,.int .u8 0,.int .u8 0,.nilFunc,.pointer none,.int .i32 0,.int .i32 0]⟩),
 (250,⟨.struct [(12,0),(12,1),(29,2),(243,3),(5,4),(5,5),(244,6),(245,7),(246,8),(247,9),(248,10)],11,48,[.int .u64 0,.int .u64 0,.int .u32 0,.int .u8 0,.int .u8 0,.int .u8 0,.int .u8 0,.nilFunc,.pointer none,.int .i32 0,.int .i32 0]⟩)]
theorem Z:TOk Go.Proofs.Tryz.prog tab:=Lc (by kernel_rfl)
end Go.Q.Yq
end
section
/- Effects that have no order among themselves: whichever comes first. -/
namespace Go.Q
section
variable {c:Cx} {lops:List Oper} {Q:Exit->Act->World->Prop} {done dead:List Nat} {pend D:List Pn} {e:Env} {h:Heap} {listed:Array Bool} {a:Act}
/-- operation i comes up -/
def Ng (c:Cx) (lops:List Oper) (Q:Exit->Act->World->Prop) (done dead:List Nat) (pend:List Pn) (e:Env) (h:Heap) (i:Nat):Prop :=
 ∀ fuel D listed a w,cnt listed<=fuel + 1->Inv c lops done dead pend e D listed a->WW c.D c.W0 h w->i ∉ done->un listed i->(∀ p,iq lops p i=true->¬ un listed p) ->
  wpOp c.P lops.toArray Q i (wpAny c.P .any lops.toArray Q fuel (listed.setIfInBounds i true)) a w
def Li (lops:List Oper) (done dead dead' A:List Nat) (i:Nat):Bool:=!mem done i && !mem dead i && FV lops i A && dead'.all fun x=>mem A x || mem dead x
def LW (lops:List Oper) (done L:List Nat):Bool :=
 (List.range lops.length).all fun j=>mem (L ++ done) j || (List.range j).any fun p=>iq lops p j && !mem done p
theorem Px (i:Nat) (A dead':List Nat) {o:Oper} {Φ:Value->Heap->Prop} {ei:Env} (hwf:wfR lops=true) (hp:PFs c lops h dead pend) (hside:Li lops done dead dead' A i=true) (hs:Sub ei e) (hk:sV lops done i ei=true)
  (ho:lops[i]? = some o) (hdk:dOk c.N o.dst=true) (hw:wnt lops ei o=some true) (hy:YE c.D c.P ei h o Φ)
  (H:∀ v h',Φ v h'->Sim c lops Q (i :: done) dead' pend (pu e o.dst v) h'):Ng c lops Q done dead pend e h i:=by
 simp only [wfR,Bool.and_eq_true] at hwf
 simp only [Li,Bool.and_eq_true,Bool.not_eq_true',List.all_eq_true,Bool.or_eq_true] at hside
 obtain ⟨⟨⟨hi,hid⟩,hA⟩,hdd⟩:=hside
 have hlt:i < lops.length:=(List.getElem?_eq_some_iff.1 ho).1
 have hi':=ve hi
 intro fuel D listed a w hf I hww hj hu hpre
 have hjl:=hlt
 obtain ⟨j,hji⟩:∃ j,j=i:=⟨i,rfl⟩
 subst hji
 have av:Fr c.N ei a:=I.fr (x:=⟨j,undef,ei⟩) hu (I.look hwf.2 hs hk) hpre
 have hds:dst? lops j=o.dst:=by simp [dst?,ho]
 unfold wpOp
 simp only [List.getElem?_toArray,ho,oJ hw av,if_true]
 left
 refine hy a w av.agr hww.heap _ _ fun v w' hw' hΦ=>?_
 have I1:=I.fix (v:=v) hwf.2 hi' (ve hid) hlt hs hk
 have I2:=I1.come hwf.2 (x:=⟨j,v,ei⟩) (by simp) hu hpre (by rw [hds]; exact hdk)
 rw [hds] at I2
 -- those that 'i' waited for have come up
 have anc:∀ n x,lops.length - x<=n->x∈A->¬ un listed x:=by
  intro n
  induction n with
  | zero =>
   intro x hx hxA
   simp only [FV,List.all_eq_true,List.any_eq_true] at hA
   obtain ⟨b,_,hb⟩:=hA x hxA
   have:=xV hwf.1 hb
   omega
  | succ n ih =>
   intro x hx hxA
   have hA':=hA
   simp only [FV,List.all_eq_true,List.any_eq_true] at hA'
   obtain ⟨b,hbm,hb⟩:=hA' x hxA
   have hbl:=xV hwf.1 hb
   rcases List.mem_cons.1 hbm with rfl | hbm
   ·exact hpre x hb
   ·exact I.dc b hbl.2 (ih b (by omega) hbm) x hb
 refine H v w'.heap hΦ fuel (⟨j,v,ei⟩ :: D) _ _ _ (by have:=Er hu; omega) ?_ (hww.trans hw')
 have pl:∀ x∈(⟨j,v,ei⟩:Pn) :: D,un (listed.setIfInBounds j true) x.j->x∈pend/\x.j ∉ dead':=fun x hx hl=>by
  obtain ⟨h1,h3⟩:=I2.pd x hx hl
  have h2:=(IG (HZ hu)).1 hl
  rcases List.mem_cons.1 h1 with rfl | h1
  ·exact absurd rfl h2.2
  ·refine ⟨h1,fun hh=>?_⟩
   rcases hdd x.j hh with hA1 | hA1
   ·exact anc _ _ (Nat.le_refl _) (mem_iff.1 hA1) h2.1
   ·exact h3 (mem_iff.1 hA1)
 exact ⟨I2.sz,I2.d,I2.n,I2.jd,I2.dj,I2.uq,I2.dn,I2.dc,pl,fun x hx=>I2.pin x (List.mem_cons_of_mem _ hx),I2.val,I2.env,I2.ops⟩
/-- two effects, in either order -/
theorem PU (i j:Nat) {A B:Prop} (hwf:wfR lops=true) (hp:PFs c lops h dead pend) (honly:LW lops done [i,j]=true) (hi:(!mem done i && Nat.blt i lops.length)=true) (H:A/\B) (h1:A->Ng c lops Q done dead pend e h i) (h2:B->Ng c lops Q done dead pend e h j):Sim c lops Q done dead pend e h:=by
 simp only [wfR,Bool.and_eq_true] at hwf
 simp only [Bool.and_eq_true,Bool.not_eq_true',Nat.blt_eq] at hi
 refine EH hwf.1 hwf.2 hp (fun D listed a w I hw hn=>absurd (I.dn i hi.2 (hn i)) (ve hi.1)) fun fuel D listed a w x hf I hww hx hxl hu hpre=>?_
 simp only [LW,List.all_eq_true,List.mem_range,Bool.or_eq_true,List.any_eq_true,Bool.and_eq_true,Bool.not_eq_true'] at honly
 rcases honly x hxl with h3 | ⟨p,hpj,hp1,hp2⟩
 ·rcases List.mem_append.1 (mem_iff.1 h3) with h4 | h4
  ·simp only [List.mem_cons,List.not_mem_nil,or_false] at h4
   rcases h4 with rfl | rfl
   ·exact h1 H.1 fuel D listed a w hf I hww hx hu hpre
   ·exact h2 H.2 fuel D listed a w hf I hww hx hu hpre
  ·exact absurd h4 hx
 ·exact absurd (I.dn p (by omega) (hpre p hp1)) (ve hp2)
end
end Go.Q
end
section
/- A call of a function value in a region that draws its order. -/
namespace Go.Q
section
variable {c:Cx} {lops:List Oper} {Q:Exit->Act->World->Prop} {done dead:List Nat} {pend:List Pn} {e:Env} {h:Heap}
end
end Go.Q
end
section
/- Short words for what the printed proofs say often. -/
namespace Go.Q
open Go.RowKit
abbrev ad (b:Nat):Addr:=⟨b,0,none⟩
abbrev pt (b:Nat):Value:=.pointer (some ⟨b,0,none⟩)
section
variable {c:Cx} {lops:List Oper} {Q:Exit->Act->World->Prop} {done dead:List Nat} {pend D:List Pn} {e:Env} {h:Heap}
end
section
variable {c:Cx} {lops l:List Oper} {x:Code} {Q:Exit->Act->World->Prop} {K:Act->World->Prop} {e:Env} {h:Heap}
theorem xJ {α:Type} {E:α->Env} {Φ:α->Heap->Prop} (s:α) (H:Φ s h) (hs:Sub (E s) e:=by repeat (first | exact trivial | refine ⟨rfl,?_⟩)):gex c (Exit.then (Jn c E Φ) Q) .normal e h:=Pd s H hs
theorem wJ {α:Type} {E:α->Env} {Φ:α->Heap->Prop} (s:α) (H:Φ s h) (hs:Sub (E s) e:=by repeat (first | exact trivial | refine ⟨rfl,?_⟩)):gop c lops Q (Jn c E Φ) [] e h:=QB s H hs
end
end Go.Q
end
section
/- Regions that draw their order, in short words: what is pending is carried in the goal. -/
namespace Go.Q
abbrev PL:=List (Bool × Pn)
def PFx (c:Cx) (lops:List Oper) (h:Heap) (dead:List Nat):PL->Prop
 | []=>True
 | x :: r=>(bif mem dead x.2.j then True else bif x.1 then ∀ h,PF c lops h x.2 else PF c lops h x.2)/\PFx c lops h dead r
def fg:PL->List Pn
 | []=>[]
 | x :: r=>x.2 :: fg r
/-- the region stands so: what is done, what has surely come up, what is pending -/
def SG (c:Cx) (lops:List Oper) (Q:Exit->Act->World->Prop) (done dead:List Nat) (pend:PL) (e:Env) (h:Heap):Prop :=
 wfR lops=true->PFx c lops h dead pend->Sim c lops Q done dead (fg pend) e h
/-- likewise; operation i comes up -/
def SGI (c:Cx) (lops:List Oper) (Q:Exit->Act->World->Prop) (done dead:List Nat) (pend:PL) (e:Env) (h:Heap) (i:Nat):Prop :=
 wfR lops=true->PFx c lops h dead pend->Ng c lops Q done dead (fg pend) e h i
def live (dead:List Nat):PL->List Pn
 | []=>[]
 | x :: r=>bif x.1 || mem dead x.2.j then live dead r else x.2 :: live dead r
/-- what reads the heap is asked for again -/
def Ask (c:Cx) (lops:List Oper) (h:Heap):List Pn->Prop->Prop
 | [],G=>G
 | x :: r,G=>PF c lops h x/\Ask c lops h r G
def iD:List Nat->Env->Env
 | [],_=>[]
 | t :: l,e=>(t,(lkO e t).getD undef) :: iD l e
def inE:List Nat->Env->Bool
 | [],_=>true
 | t :: l,e=>(lkO e t).isSome && inE l e
theorem Ep:∀ {l:List Nat} {e:Env},inE l e=true->Sub (iD l e) e
 | [],_,_=>trivial
 | t :: l,e,h=>by
  simp only [inE,Bool.and_eq_true] at h
  refine ⟨?_,Ep h.2⟩
  cases hl:lkO e t with
  | none=>simp [hl] at h
  | some v=>rfl
def FM (lops:List Oper) (done:List Nat) (i:Nat):List Nat->Bool
 | []=>true
 | t :: l=>IX lops done i t && FM lops done i l
theorem Br {lops:List Oper} {done:List Nat} {i:Nat} {e:Env}:∀ {l:List Nat},FM lops done i l=true->sV lops done i (iD l e)=true
 | [],_=>rfl
 | t :: l,h=>by
  simp only [FM,Bool.and_eq_true] at h
  simp only [iD,sV,Bool.and_eq_true]
  exact ⟨h.1,Br h.2⟩
def sdP (lops:List Oper) (done dead:List Nat) (i:Nat) (l:List Nat) (e:Env):Bool:=JE lops done dead i && FM lops done i l && inE l e
/-- those that come up ahead of 'i' -/
def JX (lops:List Oper) (i:Nat):Nat->List Nat->List Nat
 | 0,A=>A
 | j + 1,A=>JX lops i j (bif (i :: A).any (fun b=>iq lops j b) then j :: A else A)
def dd (lops:List Oper) (dead:List Nat) (i:Nat):List Nat:=JX lops i i [] ++ dead
def sdE (lops:List Oper) (done dead:List Nat) (i:Nat) (l:List Nat) (e:Env):Bool:=Ms lops done dead (dd lops dead i) (JX lops i i []) i && FM lops done i l && inE l e
def sdI (lops:List Oper) (done dead:List Nat) (i:Nat) (l:List Nat) (e:Env):Bool:=Li lops done dead (dd lops dead i) (JX lops i i []) i && FM lops done i l && inE l e
inductive DD:Option Tmp->Option Tmp->Prop
 | s {x:Option Tmp} {d:Tmp}:x=some d->DD x (some d)
 | n {x:Option Tmp}:x=none->DD x none
theorem DD.eq {x y:Option Tmp} (h:DD x y):x=y:=by cases h <;> assumption
def wni (lops:List Oper) (e:Env) (i:Nat):Option Bool:=match lops[i]? with | some o=>wnt lops e o | none=>none
def pvi (T:Tab) (lops:List Oper) (e:Env) (i:Nat):Option Value:=match lops[i]? with | some o=>pev T e o.op | none=>none
theorem PFx.pfs {c:Cx} {lops:List Oper} {h:Heap} {dead:List Nat}:∀ {l:PL},PFx c lops h dead l->PFs c lops h dead (fg l)
 | [],_=>trivial
 | x :: r,k=>by
  refine ⟨?_,PFx.pfs k.2⟩
  have k1:=k.1
  cases hm:mem dead x.2.j with
  | true=>trivial
  | false =>
   rw [hm] at k1
   cases hx:x.1 with
   | true=>rw [hx] at k1; exact k1 h
   | false=>rw [hx] at k1; exact k1
theorem Jm {a b:List Nat} {x:Nat}:mem (a ++ b) x=(mem a x || mem b x):=by simp [mem,List.any_append]
theorem PFx.next {c:Cx} {lops:List Oper} {h h':Heap} {A dead:List Nat}:∀ {l:PL},PFx c lops h dead l->Ask c lops h' (live (A ++ dead) l) True->PFx c lops h' (A ++ dead) l
 | [],_,_=>trivial
 | x :: r,k,a=>by
  have k1:=k.1
  simp only [live] at a
  simp only [PFx]
  cases hm:mem (A ++ dead) x.2.j with
  | true =>
   rw [hm,Bool.or_true] at a
   exact ⟨trivial,PFx.next k.2 a⟩
  | false =>
   rw [Jm,Bool.or_eq_false_iff] at hm
   rw [hm.2] at k1
   cases hx:x.1 with
   | true =>
    rw [hx,Bool.true_or] at a
    rw [hx] at k1
    exact ⟨k1,PFx.next k.2 a⟩
   | false =>
    rw [hx,Bool.false_or,Jm,hm.1,hm.2] at a
    exact ⟨a.1,PFx.next k.2 a.2⟩
theorem Ask.both {c:Cx} {lops:List Oper} {h:Heap} {G:Prop}:∀ {l:List Pn},Ask c lops h l G->Ask c lops h l True/\G
 | [],k=>⟨trivial,k⟩
 | x :: r,k=>⟨⟨k.1,(Ask.both k.2).1⟩,(Ask.both k.2).2⟩
section
variable {c:Cx} {lops:List Oper} {Q:Exit->Act->World->Prop} {done dead:List Nat} {pend:PL} {e:Env} {h:Heap}
theorem gN (i:Nat) (l:List Nat) {v:Value} {d:Option Tmp} (b:Bool) (hp:bif b then ∀ h,PF c lops h ⟨i,v,iD l e⟩ else PF c lops h ⟨i,v,iD l e⟩)
  (H:SG c lops Q (i :: done) dead ((b,⟨i,v,iD l e⟩) :: pend) (pu e d v) h) (hd:DD (dst? lops i) d) (hc:sdP lops done dead i l e=true):SG c lops Q done dead pend e h:=by
 intro hwf hpf
 simp only [sdP,Bool.and_eq_true] at hc
 have hn:mem dead i=false:=by have:=hc.1.1; simp only [JE,Bool.and_eq_true,Bool.not_eq_true'] at this; exact this.1.2
 refine Ot hwf hc.1.1 (Ep hc.2) (Br hc.1.2) hd.eq (H hwf ⟨?_,hpf⟩)
 simp only [hn]
 exact hp
/-- a pure operation -/
theorem gT (i:Nat) (l:List Nat) {T:Tab} (hT:TOk c.P T) {v:Value} {d:Option Tmp}
  (H:SG c lops Q (i :: done) dead ((true,⟨i,v,iD l e⟩) :: pend) (pu e d v) h) (hd:DD (dst? lops i) d:=by first | exact .s rfl | exact .n rfl) (hp:pvi T lops (iD l e) i=some v:=by exact rfl)
  (hc:sdP lops done dead i l e=true:=by kernel_rfl) (hk:dOk c.N d=true:=by kernel_rfl) (hw:wni lops (iD l e) i=some true:=by kernel_rfl):SG c lops Q done dead pend e h:=by
 refine gN i l true ?_ H hd hc
 intro h
 unfold pvi at hp
 unfold wni at hw
 cases ho:lops[i]? with
 | none=>simp [ho] at hp
 | some o =>
  simp only [ho] at hp hw
  exact Sc hT ho (by have:=hd.eq; simp only [dst?,ho] at this; rw [this]; exact hk) hw hp
/-- one that is passed over -/
theorem gS (i:Nat) (l:List Nat) {d:Option Tmp}
  (H:SG c lops Q (i :: done) dead ((true,⟨i,undef,iD l e⟩) :: pend) (pu e d undef) h) (hd:DD (dst? lops i) d:=by first | exact .s rfl | exact .n rfl)
  (hc:sdP lops done dead i l e=true:=by kernel_rfl) (hk:dOk c.N d=true:=by kernel_rfl) (hw:wni lops (iD l e) i=some false:=by kernel_rfl):SG c lops Q done dead pend e h:=by
 refine gN i l true ?_ H hd hc
 intro h
 unfold wni at hw
 cases ho:lops[i]? with
 | none=>simp [ho] at hw
 | some o =>
  simp only [ho] at hw
  exact Ti ho (by have:=hd.eq; simp only [dst?,ho] at this; rw [this]; exact hk) hw
/-- one that yields the same in every heap; one that reads this heap -/
theorem gY (i:Nat) (l:List Nat) {o:Oper} {v:Value} {d:Option Tmp} (ho:lops[i]? = some o) (hy:∀ h,Yl c.P (iD l e) h o v)
  (H:SG c lops Q (i :: done) dead ((true,⟨i,v,iD l e⟩) :: pend) (pu e d v) h) (hd:DD (dst? lops i) d:=by first | exact .s rfl | exact .n rfl)
  (hc:sdP lops done dead i l e=true:=by kernel_rfl) (hk:dOk c.N d=true:=by kernel_rfl) (hw:wnt lops (iD l e) o=some true:=by kernel_rfl):SG c lops Q done dead pend e h :=
 gN i l true (fun h=>Nb ho (by have:=hd.eq; simp only [dst?,ho] at this; rw [this]; exact hk) hw (hy h)) H hd hc
theorem gL (i:Nat) (l:List Nat) {o:Oper} {v:Value} {d:Option Tmp} (ho:lops[i]? = some o) (hy:Yl c.P (iD l e) h o v)
  (H:SG c lops Q (i :: done) dead ((false,⟨i,v,iD l e⟩) :: pend) (pu e d v) h) (hd:DD (dst? lops i) d:=by first | exact .s rfl | exact .n rfl)
  (hc:sdP lops done dead i l e=true:=by kernel_rfl) (hk:dOk c.N d=true:=by kernel_rfl) (hw:wnt lops (iD l e) o=some true:=by kernel_rfl):SG c lops Q done dead pend e h :=
 gN i l false (Nb ho (by have:=hd.eq; simp only [dst?,ho] at this; rw [this]; exact hk) hw hy) H hd hc
/-- likewise, and the value is said otherwise -/
theorem gYe (i:Nat) (l:List Nat) {o:Oper} {v v':Value} {d:Option Tmp} (ho:lops[i]? = some o) (hy:∀ h,Yl c.P (iD l e) h o v) (hv:v'=v)
  (H:SG c lops Q (i :: done) dead ((true,⟨i,v',iD l e⟩) :: pend) (pu e d v') h) (hd:DD (dst? lops i) d:=by first | exact .s rfl | exact .n rfl)
  (hc:sdP lops done dead i l e=true:=by kernel_rfl) (hk:dOk c.N d=true:=by kernel_rfl) (hw:wnt lops (iD l e) o=some true:=by kernel_rfl):SG c lops Q done dead pend e h:=by
 subst hv; exact gY i l ho hy H hd hc hk hw
/-- what is asked for again -/
theorem gR {o:Oper} {x:Pn} {r:List Pn} {G:Prop} (ho:lops[x.j]? = some o) (hy:Yl c.P x.e h o x.v) (H:Ask c lops h r G) (hk:dOk c.N o.dst=true:=by kernel_rfl) (hw:wnt lops x.e o=some true:=by kernel_rfl):Ask c lops h (x :: r) G :=
 ⟨Nb ho hk hw hy,H⟩
theorem gZ0 {G:Prop} (H:G):Ask c lops h [] G:=H
/-- an effect -/
theorem gE (i:Nat) (l:List Nat) {o:Oper} {d:Option Tmp} {Φ:Value->Heap->Prop} (ho:lops[i]? = some o) (hy:YE c.D c.P (iD l e) h o Φ)
  (H:∀ v h',Φ v h'->Ask c lops h' (live (dd lops dead i) pend) (SG c lops Q (i :: done) (dd lops dead i) pend (pu e d v) h')) (hd:DD (dst? lops i) d) (hc:sdE lops done dead i l e=true) (hk:dOk c.N d=true) (hw:wnt lops (iD l e) o=some true) :
  SG c lops Q done dead pend e h:=by
 intro hwf hpf
 simp only [sdE,Bool.and_eq_true] at hc
 have hdo:o.dst=d:=by have:=hd.eq; simpa only [dst?,ho] using this
 refine PV i (JX lops i i []) (dd lops dead i) hwf hpf.pfs hc.1.1 (Ep hc.2) (Br hc.1.2) ho (by rw [hdo]; exact hk) hw hy fun v h' hΦ=>?_
 obtain ⟨h1,h2⟩:=(H v h' hΦ).both
 rw [hdo]
 exact h2 hwf (hpf.next h1)
theorem gEI (i:Nat) (l:List Nat) {o:Oper} {d:Option Tmp} {Φ:Value->Heap->Prop} (ho:lops[i]? = some o) (hy:YE c.D c.P (iD l e) h o Φ)
  (H:∀ v h',Φ v h'->Ask c lops h' (live (dd lops dead i) pend) (SG c lops Q (i :: done) (dd lops dead i) pend (pu e d v) h')) (hd:DD (dst? lops i) d) (hc:sdI lops done dead i l e=true) (hk:dOk c.N d=true) (hw:wnt lops (iD l e) o=some true) :
  SGI c lops Q done dead pend e h i:=by
 intro hwf hpf
 simp only [sdI,Bool.and_eq_true] at hc
 have hdo:o.dst=d:=by have:=hd.eq; simpa only [dst?,ho] using this
 refine Px i (JX lops i i []) (dd lops dead i) hwf hpf.pfs hc.1.1 (Ep hc.2) (Br hc.1.2) ho (by rw [hdo]; exact hk) hw hy fun v h' hΦ=>?_
 obtain ⟨h1,h2⟩:=(H v h' hΦ).both
 rw [hdo]
 exact h2 hwf (hpf.next h1)
theorem EF {l:List Pn} {G:Prop} (hl:l.isEmpty=true) (H:G):Ask c lops h l G:=by
 cases l with
 | nil=>exact H
 | cons x r=>simp at hl
/-- a call -/
theorem gCr (i:Nat) (l:List Nat) {o:Oper} {d:Option Tmp} {f:FuncId} {as':List Operand} {ts:Array TypeId} {vs:List Value} {α:Type} {en:α->Value} {A:α->Heap->Prop} (hf:aF c.P f) (hcl:CallsHD c.D c.P f vs.toArray h fun v h'=>∃ r,v=en r/\A r h')
  (H:∀ r h',A r h'->Ask c lops h' (live (dd lops dead i) pend) (SG c lops Q (i :: done) (dd lops dead i) pend (pu e d (en r)) h')) (ho:lops[i]? = some o:=by exact rfl) (hop:o.op = .call { callee:=.value (.func f),args:=as'.toArray,argTypes:=ts }:=by exact rfl) (hv:evs (iD l e) as'=some vs:=by exact rfl)
  (hd:DD (dst? lops i) d:=by first | exact .s rfl | exact .n rfl) (hc:sdE lops done dead i l e=true:=by kernel_rfl) (hk:dOk c.N d=true:=by kernel_rfl) (hw:wnt lops (iD l e) o=some true:=by kernel_rfl):SG c lops Q done dead pend e h:=by
 have:=GN (P:=c.P) (e:=iD l e) (o:=o) hf hop rfl hv
 simp only [List.append_toArray,List.nil_append,Array.append_empty,Array.empty_append] at this
 exact gE i l ho (YE.PW hcl this) (by rintro v h' ⟨r,rfl,hA⟩; exact H r h' hA) hd hc hk hw
theorem gC (i:Nat) (l:List Nat) {o:Oper} {d:Option Tmp} {f:FuncId} {as':List Operand} {ts:Array TypeId} {vs:List Value} {α:Type} {en:α->Value} {A:α->Heap->Prop} (hf:aF c.P f) (hcl:CallsHD c.D c.P f vs.toArray h fun v h'=>∃ r,v=en r/\A r h')
  (H:∀ r h',A r h'->SG c lops Q (i :: done) (dd lops dead i) pend (pu e d (en r)) h') (ho:lops[i]? = some o:=by exact rfl) (hop:o.op = .call { callee:=.value (.func f),args:=as'.toArray,argTypes:=ts }:=by exact rfl) (hv:evs (iD l e) as'=some vs:=by exact rfl)
  (hd:DD (dst? lops i) d:=by first | exact .s rfl | exact .n rfl) (hc:sdE lops done dead i l e=true:=by kernel_rfl) (hk:dOk c.N d=true:=by kernel_rfl) (hw:wnt lops (iD l e) o=some true:=by kernel_rfl) (hl:(live (dd lops dead i) pend).isEmpty=true:=by kernel_rfl):SG c lops Q done dead pend e h :=
 gCr i l hf hcl (fun r h' hA=>EF hl (H r h' hA)) ho hop hv hd hc hk hw
/-- a call of a function value -/
theorem gV (i:Nat) (l:List Nat) {o:Oper} {d:Option Tmp} {f:FuncId} {x:Operand} {as':List Operand} {ts:Array TypeId} {vs:List Value} {α:Type} {en:α->Value} {A:α->Heap->Prop} (hf:aF c.P f) (hcl:CallsHD c.D c.P f vs.toArray h fun v h'=>∃ r,v=en r/\A r h')
  (H:∀ r h',A r h'->SG c lops Q (i :: done) (dd lops dead i) pend (pu e d (en r)) h') (ho:lops[i]? = some o:=by exact rfl) (hop:o.op = .call { callee:=.value x,args:=as'.toArray,argTypes:=ts }:=by exact rfl) (hx:evO (iD l e) x=some (.func (.func f) #[] #[]):=by exact rfl) (hv:evs (iD l e) as'=some vs:=by exact rfl)
  (hd:DD (dst? lops i) d:=by first | exact .s rfl | exact .n rfl) (hc:sdE lops done dead i l e=true:=by kernel_rfl) (hk:dOk c.N d=true:=by kernel_rfl) (hw:wnt lops (iD l e) o=some true:=by kernel_rfl) (hl:(live (dd lops dead i) pend).isEmpty=true:=by kernel_rfl):SG c lops Q done dead pend e h:=by
 have:=GN (P:=c.P) (e:=iD l e) (o:=o) hf hop hx hv
 simp only [List.append_toArray,List.nil_append,Array.append_empty,Array.empty_append] at this
 exact gE i l ho (YE.PW hcl this) (by rintro v h' ⟨r,rfl,hA⟩; exact EF hl (H r h' hA)) hd hc hk hw
/-- an effect on the heap -/
theorem gHr (i:Nat) (l:List Nat) {o:Oper} {d:Option Tmp} {v:Value} {h':Heap} (ho:lops[i]? = some o) (hy:Yh c.P (iD l e) h o v h')
  (H:Ask c lops h' (live (dd lops dead i) pend) (SG c lops Q (i :: done) (dd lops dead i) pend (pu e d v) h'))
  (hd:DD (dst? lops i) d:=by first | exact .s rfl | exact .n rfl) (hc:sdE lops done dead i l e=true:=by kernel_rfl) (hk:dOk c.N d=true:=by kernel_rfl) (hw:wnt lops (iD l e) o=some true:=by kernel_rfl):SG c lops Q done dead pend e h :=
 gE i l ho (YE.QC hy) (by rintro _ _ ⟨rfl,rfl⟩; exact H) hd hc hk hw
theorem gH (i:Nat) (l:List Nat) {o:Oper} {d:Option Tmp} {v:Value} {h':Heap} (ho:lops[i]? = some o) (hy:Yh c.P (iD l e) h o v h')
  (H:SG c lops Q (i :: done) (dd lops dead i) pend (pu e d v) h')
  (hd:DD (dst? lops i) d:=by first | exact .s rfl | exact .n rfl) (hc:sdE lops done dead i l e=true:=by kernel_rfl) (hk:dOk c.N d=true:=by kernel_rfl) (hw:wnt lops (iD l e) o=some true:=by kernel_rfl) (hl:(live (dd lops dead i) pend).isEmpty=true:=by kernel_rfl):SG c lops Q done dead pend e h :=
 gHr i l ho hy (EF hl H) hd hc hk hw
theorem NQ (i:Nat) (l:List Nat) {o:Oper} {d:Option Tmp} {v:Value} {h':Heap} (ho:lops[i]? = some o) (hy:Yh c.P (iD l e) h o v h')
  (H:Ask c lops h' (live (dd lops dead i) pend) (SG c lops Q (i :: done) (dd lops dead i) pend (pu e d v) h'))
  (hd:DD (dst? lops i) d:=by first | exact .s rfl | exact .n rfl) (hc:sdI lops done dead i l e=true:=by kernel_rfl) (hk:dOk c.N d=true:=by kernel_rfl) (hw:wnt lops (iD l e) o=some true:=by kernel_rfl):SGI c lops Q done dead pend e h i :=
 gEI i l ho (YE.QC hy) (by rintro _ _ ⟨rfl,rfl⟩; exact H) hd hc hk hw
theorem gA (i:Nat) (l:List Nat) {o:Oper} {d:Option Tmp} {Φ:Value->Heap->Prop} (ho:lops[i]? = some o) (hy:Ya c.P (iD l e) h o Φ)
  (H:∀ v h',Φ v h'->SG c lops Q (i :: done) (dd lops dead i) pend (pu e d v) h')
  (hd:DD (dst? lops i) d:=by first | exact .s rfl | exact .n rfl) (hc:sdE lops done dead i l e=true:=by kernel_rfl) (hk:dOk c.N d=true:=by kernel_rfl) (hw:wnt lops (iD l e) o=some true:=by kernel_rfl) (hl:(live (dd lops dead i) pend).isEmpty=true:=by kernel_rfl):SG c lops Q done dead pend e h :=
 gE i l ho (YE.SF hy) (fun v h' k=>EF hl (H v h' k)) hd hc hk hw
/-- a truth value that was found -/
theorem gI {b:Bool} {A B:Prop} (d:Nat) (H:if b then A else B) (h1:b=true->A->SG c lops Q done dead pend ((d,.bool true) :: e) h) (h2:b=false->B->SG c lops Q done dead pend ((d,.bool false) :: e) h) (hd:lkO e d=some (.bool b):=by exact rfl):SG c lops Q done dead pend e h :=
 fun hwf hp=>Nq d H hd (fun k a=>h1 k a hwf hp) (fun k a=>h2 k a hwf hp)
/-- two effects in either order -/
theorem gO (i j:Nat) {A B:Prop} (H:A/\B) (h1:A->SGI c lops Q done dead pend e h i) (h2:B->SGI c lops Q done dead pend e h j) (honly:LW lops done [i,j]=true:=by kernel_rfl) (hi:(!mem done i && Nat.blt i lops.length)=true:=by kernel_rfl):SG c lops Q done dead pend e h :=
 fun hwf hp=>PU i j hwf hp.pfs honly hi H (fun a=>h1 a hwf hp) (fun a=>h2 a hwf hp)
/-- every operation is done -/
theorem gZ (H:gex c Q .normal e h) (hall:(List.range lops.length).all (mem done)=true:=by kernel_rfl):SG c lops Q done dead pend e h :=
 fun hwf hp=>NC hwf hp.pfs hall H
inductive ui:List Nat->Env->Env->Prop
 | nil {e:Env}:ui [] e []
 | cons {t:Nat} {v:Value} {l:List Nat} {e r:Env}:lkO e t=some v->ui l e r->ui (t :: l) e ((t,v) :: r)
theorem ui.sub {l:List Nat} {e r:Env} (h:ui l e r):Sub r e:=by
 induction h with
 | nil=>trivial
 | cons h1 _ ih=>exact ⟨h1,ih⟩
/-- the region's start -/
theorem gB (l:List Nat) {id:Nat} {e':Env} (H:SG c lops Q [] [] [] e' h) (hs:ui l e e':=by repeat (first | exact ui.nil | (apply ui.cons; exact rfl))) (hm:c.P.follows .mixedOrders=true:=by kernel_rfl) (hwf:wfR lops=true:=by kernel_rfl):gco c (Code.region id lops.toArray true) Q e h :=
 Qm e' hm hwf hs.sub fun wf=>H wf trivial
end
end Go.Q
end

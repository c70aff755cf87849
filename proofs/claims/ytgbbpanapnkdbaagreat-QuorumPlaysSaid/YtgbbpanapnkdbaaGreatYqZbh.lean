/- A part of the proof of statements of this seat: lemmas, no statement of their own. -/
import Derived.Test.YtgbbpanapnkdbaaGreatYqZad
import Derived.Test.YtgbbpanapnkdbaaGreatYqZbg
set_option linter.unusedVariables false
set_option linter.unusedSimpArgs false
set_option maxRecDepth 100000
set_option maxHeartbeats 1000000
section
namespace Go.Q.Yq
open Go.ChangeShapes Go.WideShapes
section
variable {H:Type} {enc:TypeId × Value->H} {w:World} {base:Nat} {sp:Nat->Bool} {held:Bool}
def Ec (h:Heap) (v:aG):Prop:=((Lit.int .u64 v.f_N).wf=true)/\((Lit.int .u16 v.aR).wf=true)
theorem FD {fuel:Nat} {cs:List Value} {x:DataW H × List MemPlace} (W:WtOk Go.Proofs.Tryz.prog 87 x.1) (h:DataW.trod enc Go.Proofs.Tryz.prog w base sp held fuel 87 cs=some x):∃ v:aG,cs=aG.cs v/\Ec w.heap v:=by
 obtain ⟨n,hl,g⟩:=uk Go.Proofs.Tryz.underlying87 W h
 obtain ⟨y0,g0,W0⟩:=g 0 _ rfl
 replace W0:WtOk Go.Proofs.Tryz.prog 25 y0.1:=W0
 replace g0:DataW.trod enc Go.Proofs.Tryz.prog w base sp held n 25 ((cs.drop 0).take (Go.Proofs.Tryz.prog.cellsOf 25))=some y0:=g0
 rw [show Go.Proofs.Tryz.prog.cellsOf 25=1 from by kernel_rfl] at g0
 obtain ⟨a0,e0,_,w0⟩:=DataW.trod_int Go.Proofs.Tryz.underlying25 g0
 obtain ⟨y1,g1,W1⟩:=g 1 _ rfl
 replace W1:WtOk Go.Proofs.Tryz.prog 85 y1.1:=W1
 replace g1:DataW.trod enc Go.Proofs.Tryz.prog w base sp held n 85 ((cs.drop 1).take (Go.Proofs.Tryz.prog.cellsOf 85))=some y1:=g1
 rw [show Go.Proofs.Tryz.prog.cellsOf 85=1 from by kernel_rfl] at g1
 obtain ⟨a1,e1,_,w1⟩:=DataW.trod_int Go.Proofs.Tryz.underlying85 g1
 have r0:cs.drop 0=_ ++ cs.drop 1:=aZ e0
 have r1:cs.drop 1=_ ++ cs.drop 2:=aZ e1
 have rn:cs.drop 2=[]:=xH (hl.trans (by kernel_rfl))
 exact ⟨⟨a0,a1⟩,(List.drop_zero).symm.trans (r0.trans (by rw [r1,rn]; rfl)),w0,w1⟩
def wy (h:Heap) (v:ae):Prop:=(v.ak.size<=maxLen)/\((Lit.int .i64 v.f_T).wf=true)/\((Lit.int .i64 v.f_V).wf=true)/\(Ec h v.dB)
theorem yK {fuel:Nat} {cs:List Value} {x:DataW H × List MemPlace} (W:WtOk Go.Proofs.Tryz.prog 89 x.1) (h:DataW.trod enc Go.Proofs.Tryz.prog w base sp held fuel 89 cs=some x):∃ v:ae,cs=ae.cs v/\wy w.heap v:=by
 obtain ⟨n,hl,g⟩:=uk Go.Proofs.Tryz.underlying89 W h
 obtain ⟨y0,g0,W0⟩:=g 0 _ rfl
 replace W0:WtOk Go.Proofs.Tryz.prog 9 y0.1:=W0
 replace g0:DataW.trod enc Go.Proofs.Tryz.prog w base sp held n 9 ((cs.drop 0).take (Go.Proofs.Tryz.prog.cellsOf 9))=some y0:=g0
 rw [show Go.Proofs.Tryz.prog.cellsOf 9=1 from by kernel_rfl] at g0
 obtain ⟨a0,e0,_,w0⟩:=DataW.trod_string Go.Proofs.Tryz.underlying9 g0
 obtain ⟨y1,g1,W1⟩:=g 1 _ rfl
 replace W1:WtOk Go.Proofs.Tryz.prog 2 y1.1:=W1
 replace g1:DataW.trod enc Go.Proofs.Tryz.prog w base sp held n 2 ((cs.drop 1).take (Go.Proofs.Tryz.prog.cellsOf 2))=some y1:=g1
 rw [show Go.Proofs.Tryz.prog.cellsOf 2=1 from by kernel_rfl] at g1
 obtain ⟨a1,e1,_,w1⟩:=DataW.trod_int Go.Proofs.Tryz.underlying2 g1
 obtain ⟨y2,g2,W2⟩:=g 2 _ rfl
 replace W2:WtOk Go.Proofs.Tryz.prog 2 y2.1:=W2
 replace g2:DataW.trod enc Go.Proofs.Tryz.prog w base sp held n 2 ((cs.drop 2).take (Go.Proofs.Tryz.prog.cellsOf 2))=some y2:=g2
 rw [show Go.Proofs.Tryz.prog.cellsOf 2=1 from by kernel_rfl] at g2
 obtain ⟨a2,e2,_,w2⟩:=DataW.trod_int Go.Proofs.Tryz.underlying2 g2
 obtain ⟨y3,g3,W3⟩:=g 3 _ rfl
 replace W3:WtOk Go.Proofs.Tryz.prog 87 y3.1:=W3
 replace g3:DataW.trod enc Go.Proofs.Tryz.prog w base sp held n 87 ((cs.drop 3).take (Go.Proofs.Tryz.prog.cellsOf 87))=some y3:=g3
 rw [show Go.Proofs.Tryz.prog.cellsOf 87=2 from by kernel_rfl] at g3
 obtain ⟨a3,e3,w3⟩:=FD W3 g3
 have r0:cs.drop 0=_ ++ cs.drop 1:=aZ e0
 have r1:cs.drop 1=_ ++ cs.drop 2:=aZ e1
 have r2:cs.drop 2=_ ++ cs.drop 3:=aZ e2
 have r3:cs.drop 3=_ ++ cs.drop 5:=aZ e3
 have rn:cs.drop 5=[]:=xH (hl.trans (by kernel_rfl))
 exact ⟨⟨a0,a1,a2,a3⟩,(List.drop_zero).symm.trans (r0.trans (by rw [r1,r2,r3,rn]; rfl)),w0,w1,w2,w3⟩
def AZ (h:Heap) (v:aC):Prop:=(v.dF.size<=maxLen)/\((Lit.int .i64 v.pK).wf=true)/\((Lit.int .i64 v.FE).wf=true)/\((Lit.int .i64 v.aW).wf=true)/\((Lit.int .i64 v.aX).wf=true)
theorem Dz {fuel:Nat} {cs:List Value} {x:DataW H × List MemPlace} (W:WtOk Go.Proofs.Tryz.prog 28 x.1) (h:DataW.trod enc Go.Proofs.Tryz.prog w base sp held fuel 28 cs=some x):∃ v:aC,cs=aC.cs v/\AZ w.heap v:=by
 obtain ⟨n,hl,g⟩:=uk Go.Proofs.Tryz.underlying28 W h
 obtain ⟨y0,g0,W0⟩:=g 0 _ rfl
 replace W0:WtOk Go.Proofs.Tryz.prog 9 y0.1:=W0
 replace g0:DataW.trod enc Go.Proofs.Tryz.prog w base sp held n 9 ((cs.drop 0).take (Go.Proofs.Tryz.prog.cellsOf 9))=some y0:=g0
 rw [show Go.Proofs.Tryz.prog.cellsOf 9=1 from by kernel_rfl] at g0
 obtain ⟨a0,e0,_,w0⟩:=DataW.trod_string Go.Proofs.Tryz.underlying9 g0
 obtain ⟨y1,g1,W1⟩:=g 1 _ rfl
 replace W1:WtOk Go.Proofs.Tryz.prog 2 y1.1:=W1
 replace g1:DataW.trod enc Go.Proofs.Tryz.prog w base sp held n 2 ((cs.drop 1).take (Go.Proofs.Tryz.prog.cellsOf 2))=some y1:=g1
 rw [show Go.Proofs.Tryz.prog.cellsOf 2=1 from by kernel_rfl] at g1
 obtain ⟨a1,e1,_,w1⟩:=DataW.trod_int Go.Proofs.Tryz.underlying2 g1
 obtain ⟨y2,g2,W2⟩:=g 2 _ rfl
 replace W2:WtOk Go.Proofs.Tryz.prog 2 y2.1:=W2
 replace g2:DataW.trod enc Go.Proofs.Tryz.prog w base sp held n 2 ((cs.drop 2).take (Go.Proofs.Tryz.prog.cellsOf 2))=some y2:=g2
 rw [show Go.Proofs.Tryz.prog.cellsOf 2=1 from by kernel_rfl] at g2
 obtain ⟨a2,e2,_,w2⟩:=DataW.trod_int Go.Proofs.Tryz.underlying2 g2
 obtain ⟨y3,g3,W3⟩:=g 3 _ rfl
 replace W3:WtOk Go.Proofs.Tryz.prog 3 y3.1:=W3
 replace g3:DataW.trod enc Go.Proofs.Tryz.prog w base sp held n 3 ((cs.drop 3).take (Go.Proofs.Tryz.prog.cellsOf 3))=some y3:=g3
 rw [show Go.Proofs.Tryz.prog.cellsOf 3=1 from by kernel_rfl] at g3
 obtain ⟨a3,e3,_,w3⟩:=DataW.trod_int Go.Proofs.Tryz.underlying3 g3
 obtain ⟨y4,g4,W4⟩:=g 4 _ rfl
 replace W4:WtOk Go.Proofs.Tryz.prog 2 y4.1:=W4
 replace g4:DataW.trod enc Go.Proofs.Tryz.prog w base sp held n 2 ((cs.drop 4).take (Go.Proofs.Tryz.prog.cellsOf 2))=some y4:=g4
 rw [show Go.Proofs.Tryz.prog.cellsOf 2=1 from by kernel_rfl] at g4
 obtain ⟨a4,e4,_,w4⟩:=DataW.trod_int Go.Proofs.Tryz.underlying2 g4
 have r0:cs.drop 0=_ ++ cs.drop 1:=aZ e0
 have r1:cs.drop 1=_ ++ cs.drop 2:=aZ e1
 have r2:cs.drop 2=_ ++ cs.drop 3:=aZ e2
 have r3:cs.drop 3=_ ++ cs.drop 4:=aZ e3
 have r4:cs.drop 4=_ ++ cs.drop 5:=aZ e4
 have rn:cs.drop 5=[]:=xH (hl.trans (by kernel_rfl))
 exact ⟨⟨a0,a1,a2,a3,a4⟩,(List.drop_zero).symm.trans (r0.trans (by rw [r1,r2,r3,r4,rn]; rfl)),w0,w1,w2,w3,w4⟩
def yG (h:Heap) (v:aT):Prop:=((Lit.int .i64 v.aJ).wf=true)/\(v.qx.size<=maxLen)/\((Lit.int .u32 v.JU).wf=true)/\(v.EC.length=12/\∀ x∈v.EC,(Lit.int .u8 x).wf=true)/\(v.dD.len<=v.dD.cap/\v.dD.cap<=maxLen/\v.dD.len * 1<=140737488351232/\∃ zs,SlI .u8 h v.dD zs)/\((Lit.int .i64 v.F3).wf=true)
theorem Cr {fuel:Nat} {cs:List Value} {x:DataW H × List MemPlace} (W:WtOk Go.Proofs.Tryz.prog 34 x.1) (h:DataW.trod enc Go.Proofs.Tryz.prog w base sp held fuel 34 cs=some x):∃ v:aT,cs=aT.cs v/\yG w.heap v:=by
 obtain ⟨n,hl,g⟩:=uk Go.Proofs.Tryz.underlying34 W h
 obtain ⟨y0,g0,W0⟩:=g 0 _ rfl
 replace W0:WtOk Go.Proofs.Tryz.prog 3 y0.1:=W0
 replace g0:DataW.trod enc Go.Proofs.Tryz.prog w base sp held n 3 ((cs.drop 0).take (Go.Proofs.Tryz.prog.cellsOf 3))=some y0:=g0
 rw [show Go.Proofs.Tryz.prog.cellsOf 3=1 from by kernel_rfl] at g0
 obtain ⟨a0,e0,_,w0⟩:=DataW.trod_int Go.Proofs.Tryz.underlying3 g0
 obtain ⟨y1,g1,W1⟩:=g 1 _ rfl
 replace W1:WtOk Go.Proofs.Tryz.prog 9 y1.1:=W1
 replace g1:DataW.trod enc Go.Proofs.Tryz.prog w base sp held n 9 ((cs.drop 1).take (Go.Proofs.Tryz.prog.cellsOf 9))=some y1:=g1
 rw [show Go.Proofs.Tryz.prog.cellsOf 9=1 from by kernel_rfl] at g1
 obtain ⟨a1,e1,_,w1⟩:=DataW.trod_string Go.Proofs.Tryz.underlying9 g1
 obtain ⟨y2,g2,W2⟩:=g 2 _ rfl
 replace W2:WtOk Go.Proofs.Tryz.prog 29 y2.1:=W2
 replace g2:DataW.trod enc Go.Proofs.Tryz.prog w base sp held n 29 ((cs.drop 2).take (Go.Proofs.Tryz.prog.cellsOf 29))=some y2:=g2
 rw [show Go.Proofs.Tryz.prog.cellsOf 29=1 from by kernel_rfl] at g2
 obtain ⟨a2,e2,_,w2⟩:=DataW.trod_int Go.Proofs.Tryz.underlying29 g2
 obtain ⟨y3,g3,W3⟩:=g 3 _ rfl
 replace W3:WtOk Go.Proofs.Tryz.prog 31 y3.1:=W3
 replace g3:DataW.trod enc Go.Proofs.Tryz.prog w base sp held n 31 ((cs.drop 3).take (Go.Proofs.Tryz.prog.cellsOf 31))=some y3:=g3
 rw [show Go.Proofs.Tryz.prog.cellsOf 31=12 from by kernel_rfl] at g3
 obtain ⟨a3,e3,l3,w3⟩:=open_arr Go.Proofs.Tryz.underlying31 Go.Proofs.Tryz.underlying5 (by kernel_rfl) (by kernel_rfl) g3
 obtain ⟨y4,g4,W4⟩:=g 4 _ rfl
 replace W4:WtOk Go.Proofs.Tryz.prog 32 y4.1:=W4
 replace g4:DataW.trod enc Go.Proofs.Tryz.prog w base sp held n 32 ((cs.drop 15).take (Go.Proofs.Tryz.prog.cellsOf 32))=some y4:=g4
 rw [show Go.Proofs.Tryz.prog.cellsOf 32=1 from by kernel_rfl] at g4
 obtain ⟨a4,e4,l4,m4,z4,w4⟩:=EW Go.Proofs.Tryz.underlying32 Go.Proofs.Tryz.underlying5 (by kernel_rfl) W4 g4
 obtain ⟨y5,g5,W5⟩:=g 5 _ rfl
 replace W5:WtOk Go.Proofs.Tryz.prog 2 y5.1:=W5
 replace g5:DataW.trod enc Go.Proofs.Tryz.prog w base sp held n 2 ((cs.drop 16).take (Go.Proofs.Tryz.prog.cellsOf 2))=some y5:=g5
 rw [show Go.Proofs.Tryz.prog.cellsOf 2=1 from by kernel_rfl] at g5
 obtain ⟨a5,e5,_,w5⟩:=DataW.trod_int Go.Proofs.Tryz.underlying2 g5
 have r0:cs.drop 0=_ ++ cs.drop 1:=aZ e0
 have r1:cs.drop 1=_ ++ cs.drop 2:=aZ e1
 have r2:cs.drop 2=_ ++ cs.drop 3:=aZ e2
 have r3:cs.drop 3=_ ++ cs.drop 15:=aZ e3
 have r4:cs.drop 15=_ ++ cs.drop 16:=aZ e4
 have r5:cs.drop 16=_ ++ cs.drop 17:=aZ e5
 have rn:cs.drop 17=[]:=xH (hl.trans (by kernel_rfl))
 exact ⟨⟨a0,a1,a2,a3,a4,a5⟩,(List.drop_zero).symm.trans (r0.trans (by rw [r1,r2,r3,r4,r5,rn]; rfl)),w0,w1,w2,⟨l3,w3⟩,⟨l4,m4,(by rw [show Go.Proofs.Tryz.prog.bytesOf 5=1 from by kernel_rfl] at z4; exact z4),w4⟩,w5⟩
def Cm (h:Heap) (v:au):Prop:=((Lit.int .i64 v.mH).wf=true)/\((Lit.int .u64 v.nA).wf=true)
theorem El {fuel:Nat} {cs:List Value} {x:DataW H × List MemPlace} (W:WtOk Go.Proofs.Tryz.prog 116 x.1) (h:DataW.trod enc Go.Proofs.Tryz.prog w base sp held fuel 116 cs=some x):∃ v:au,cs=au.cs v/\Cm w.heap v:=by
 obtain ⟨n,hl,g⟩:=uk Go.Proofs.Tryz.underlying116 W h
 obtain ⟨y0,g0,W0⟩:=g 0 _ rfl
 replace W0:WtOk Go.Proofs.Tryz.prog 2 y0.1:=W0
 replace g0:DataW.trod enc Go.Proofs.Tryz.prog w base sp held n 2 ((cs.drop 0).take (Go.Proofs.Tryz.prog.cellsOf 2))=some y0:=g0
 rw [show Go.Proofs.Tryz.prog.cellsOf 2=1 from by kernel_rfl] at g0
 obtain ⟨a0,e0,_,w0⟩:=DataW.trod_int Go.Proofs.Tryz.underlying2 g0
 obtain ⟨y1,g1,W1⟩:=g 1 _ rfl
 replace W1:WtOk Go.Proofs.Tryz.prog 25 y1.1:=W1
 replace g1:DataW.trod enc Go.Proofs.Tryz.prog w base sp held n 25 ((cs.drop 1).take (Go.Proofs.Tryz.prog.cellsOf 25))=some y1:=g1
 rw [show Go.Proofs.Tryz.prog.cellsOf 25=1 from by kernel_rfl] at g1
 obtain ⟨a1,e1,_,w1⟩:=DataW.trod_int Go.Proofs.Tryz.underlying25 g1
 have r0:cs.drop 0=_ ++ cs.drop 1:=aZ e0
 have r1:cs.drop 1=_ ++ cs.drop 2:=aZ e1
 have rn:cs.drop 2=[]:=xH (hl.trans (by kernel_rfl))
 exact ⟨⟨a0,a1⟩,(List.drop_zero).symm.trans (r0.trans (by rw [r1,rn]; rfl)),w0,w1⟩
def C8 (h:Heap) (v:aH):Prop:=(v.ak.size<=maxLen)/\((Lit.int .i64 v.f_T).wf=true)/\(Cm h v.f_W)
theorem Fg {fuel:Nat} {cs:List Value} {x:DataW H × List MemPlace} (W:WtOk Go.Proofs.Tryz.prog 118 x.1) (h:DataW.trod enc Go.Proofs.Tryz.prog w base sp held fuel 118 cs=some x):∃ v:aH,cs=aH.cs v/\C8 w.heap v:=by
 obtain ⟨n,hl,g⟩:=uk Go.Proofs.Tryz.underlying118 W h
 obtain ⟨y0,g0,W0⟩:=g 0 _ rfl
 replace W0:WtOk Go.Proofs.Tryz.prog 9 y0.1:=W0
 replace g0:DataW.trod enc Go.Proofs.Tryz.prog w base sp held n 9 ((cs.drop 0).take (Go.Proofs.Tryz.prog.cellsOf 9))=some y0:=g0
 rw [show Go.Proofs.Tryz.prog.cellsOf 9=1 from by kernel_rfl] at g0
 obtain ⟨a0,e0,_,w0⟩:=DataW.trod_string Go.Proofs.Tryz.underlying9 g0
 obtain ⟨y1,g1,W1⟩:=g 1 _ rfl
 replace W1:WtOk Go.Proofs.Tryz.prog 2 y1.1:=W1
 replace g1:DataW.trod enc Go.Proofs.Tryz.prog w base sp held n 2 ((cs.drop 1).take (Go.Proofs.Tryz.prog.cellsOf 2))=some y1:=g1
 rw [show Go.Proofs.Tryz.prog.cellsOf 2=1 from by kernel_rfl] at g1
 obtain ⟨a1,e1,_,w1⟩:=DataW.trod_int Go.Proofs.Tryz.underlying2 g1
 obtain ⟨y2,g2,W2⟩:=g 2 _ rfl
 replace W2:WtOk Go.Proofs.Tryz.prog 116 y2.1:=W2
 replace g2:DataW.trod enc Go.Proofs.Tryz.prog w base sp held n 116 ((cs.drop 2).take (Go.Proofs.Tryz.prog.cellsOf 116))=some y2:=g2
 rw [show Go.Proofs.Tryz.prog.cellsOf 116=2 from by kernel_rfl] at g2
 obtain ⟨a2,e2,w2⟩:=El W2 g2
 have r0:cs.drop 0=_ ++ cs.drop 1:=aZ e0
 have r1:cs.drop 1=_ ++ cs.drop 2:=aZ e1
 have r2:cs.drop 2=_ ++ cs.drop 4:=aZ e2
 have rn:cs.drop 4=[]:=xH (hl.trans (by kernel_rfl))
 exact ⟨⟨a0,a1,a2⟩,(List.drop_zero).symm.trans (r0.trans (by rw [r1,r2,rn]; rfl)),w0,w1,w2⟩
def Ef (h:Heap) (v:aj):Prop:=((Lit.int .u64 v.f_N).wf=true)/\((Lit.int .i64 v.aJ).wf=true)/\(v.qx.size<=maxLen)/\(v.aP.len<=v.aP.cap/\v.aP.cap<=maxLen/\v.aP.len * 48<=140737488351232/\∃ ys:List ae,LsAt ae.cs 5 h v.aP ys/\∀ y∈ys,wy h y)/\(AZ h v.f_Q)/\(yG h v.oM)/\((Lit.int .i64 v.kX).wf=true)/\(v.aQ.len<=v.aQ.cap/\v.aQ.cap<=maxLen/\v.aQ.len * 8<=140737488351232/\∃ zs,SlI .i64 h v.aQ zs)/\(v.eD.len<=v.eD.cap/\v.eD.cap<=maxLen/\v.eD.len * 8<=140737488351232/\∃ zs,SlI .i64 h v.eD zs)/\((Lit.int .i64 v.cZ).wf=true)/\(True)/\((Lit.int .i64 v.f_E).wf=true)/\(v.dV.len<=v.dV.cap/\v.dV.cap<=maxLen/\v.dV.len * 40<=140737488351232/\∃ ys:List aH,LsAt aH.cs 4 h v.dV ys/\∀ y∈ys,C8 h y)
theorem Fy {fuel:Nat} {cs:List Value} {x:DataW H × List MemPlace} (W:WtOk Go.Proofs.Tryz.prog 39 x.1) (h:DataW.trod enc Go.Proofs.Tryz.prog w base sp held fuel 39 cs=some x):∃ v:aj,cs=aj.cs v/\Ef w.heap v:=by
 obtain ⟨n,hl,g⟩:=uk Go.Proofs.Tryz.underlying39 W h
 obtain ⟨y0,g0,W0⟩:=g 0 _ rfl
 replace W0:WtOk Go.Proofs.Tryz.prog 25 y0.1:=W0
 replace g0:DataW.trod enc Go.Proofs.Tryz.prog w base sp held n 25 ((cs.drop 0).take (Go.Proofs.Tryz.prog.cellsOf 25))=some y0:=g0
 rw [show Go.Proofs.Tryz.prog.cellsOf 25=1 from by kernel_rfl] at g0
 obtain ⟨a0,e0,_,w0⟩:=DataW.trod_int Go.Proofs.Tryz.underlying25 g0
 obtain ⟨y1,g1,W1⟩:=g 1 _ rfl
 replace W1:WtOk Go.Proofs.Tryz.prog 3 y1.1:=W1
 replace g1:DataW.trod enc Go.Proofs.Tryz.prog w base sp held n 3 ((cs.drop 1).take (Go.Proofs.Tryz.prog.cellsOf 3))=some y1:=g1
 rw [show Go.Proofs.Tryz.prog.cellsOf 3=1 from by kernel_rfl] at g1
 obtain ⟨a1,e1,_,w1⟩:=DataW.trod_int Go.Proofs.Tryz.underlying3 g1
 obtain ⟨y2,g2,W2⟩:=g 2 _ rfl
 replace W2:WtOk Go.Proofs.Tryz.prog 9 y2.1:=W2
 replace g2:DataW.trod enc Go.Proofs.Tryz.prog w base sp held n 9 ((cs.drop 2).take (Go.Proofs.Tryz.prog.cellsOf 9))=some y2:=g2
 rw [show Go.Proofs.Tryz.prog.cellsOf 9=1 from by kernel_rfl] at g2
 obtain ⟨a2,e2,_,w2⟩:=DataW.trod_string Go.Proofs.Tryz.underlying9 g2
 obtain ⟨y3,g3,W3⟩:=g 3 _ rfl
 replace W3:WtOk Go.Proofs.Tryz.prog 26 y3.1:=W3
 replace g3:DataW.trod enc Go.Proofs.Tryz.prog w base sp held n 26 ((cs.drop 3).take (Go.Proofs.Tryz.prog.cellsOf 26))=some y3:=g3
 rw [show Go.Proofs.Tryz.prog.cellsOf 26=1 from by kernel_rfl] at g3
 obtain ⟨a3,e3,l3,m3,z3,w3⟩:=open_lsw (cs:=ae.cs) (w':=5) Go.Proofs.Tryz.underlying26 (by kernel_rfl) (fun hW hq=>yK hW hq) W3 g3
 obtain ⟨y4,g4,W4⟩:=g 4 _ rfl
 replace W4:WtOk Go.Proofs.Tryz.prog 28 y4.1:=W4
 replace g4:DataW.trod enc Go.Proofs.Tryz.prog w base sp held n 28 ((cs.drop 4).take (Go.Proofs.Tryz.prog.cellsOf 28))=some y4:=g4
 rw [show Go.Proofs.Tryz.prog.cellsOf 28=5 from by kernel_rfl] at g4
 obtain ⟨a4,e4,w4⟩:=Dz W4 g4
 obtain ⟨y5,g5,W5⟩:=g 5 _ rfl
 replace W5:WtOk Go.Proofs.Tryz.prog 34 y5.1:=W5
 replace g5:DataW.trod enc Go.Proofs.Tryz.prog w base sp held n 34 ((cs.drop 9).take (Go.Proofs.Tryz.prog.cellsOf 34))=some y5:=g5
 rw [show Go.Proofs.Tryz.prog.cellsOf 34=17 from by kernel_rfl] at g5
 obtain ⟨a5,e5,w5⟩:=Cr W5 g5
 obtain ⟨y6,g6,W6⟩:=g 6 _ rfl
 replace W6:WtOk Go.Proofs.Tryz.prog 2 y6.1:=W6
 replace g6:DataW.trod enc Go.Proofs.Tryz.prog w base sp held n 2 ((cs.drop 26).take (Go.Proofs.Tryz.prog.cellsOf 2))=some y6:=g6
 rw [show Go.Proofs.Tryz.prog.cellsOf 2=1 from by kernel_rfl] at g6
 obtain ⟨a6,e6,_,w6⟩:=DataW.trod_int Go.Proofs.Tryz.underlying2 g6
 obtain ⟨y7,g7,W7⟩:=g 7 _ rfl
 replace W7:WtOk Go.Proofs.Tryz.prog 35 y7.1:=W7
 replace g7:DataW.trod enc Go.Proofs.Tryz.prog w base sp held n 35 ((cs.drop 27).take (Go.Proofs.Tryz.prog.cellsOf 35))=some y7:=g7
 rw [show Go.Proofs.Tryz.prog.cellsOf 35=1 from by kernel_rfl] at g7
 obtain ⟨a7,e7,l7,m7,z7,w7⟩:=EW Go.Proofs.Tryz.underlying35 Go.Proofs.Tryz.underlying3 (by kernel_rfl) W7 g7
 obtain ⟨y8,g8,W8⟩:=g 8 _ rfl
 replace W8:WtOk Go.Proofs.Tryz.prog 35 y8.1:=W8
 replace g8:DataW.trod enc Go.Proofs.Tryz.prog w base sp held n 35 ((cs.drop 28).take (Go.Proofs.Tryz.prog.cellsOf 35))=some y8:=g8
 rw [show Go.Proofs.Tryz.prog.cellsOf 35=1 from by kernel_rfl] at g8
 obtain ⟨a8,e8,l8,m8,z8,w8⟩:=EW Go.Proofs.Tryz.underlying35 Go.Proofs.Tryz.underlying3 (by kernel_rfl) W8 g8
 obtain ⟨y9,g9,W9⟩:=g 9 _ rfl
 replace W9:WtOk Go.Proofs.Tryz.prog 3 y9.1:=W9
 replace g9:DataW.trod enc Go.Proofs.Tryz.prog w base sp held n 3 ((cs.drop 29).take (Go.Proofs.Tryz.prog.cellsOf 3))=some y9:=g9
 rw [show Go.Proofs.Tryz.prog.cellsOf 3=1 from by kernel_rfl] at g9
 obtain ⟨a9,e9,_,w9⟩:=DataW.trod_int Go.Proofs.Tryz.underlying3 g9
 obtain ⟨y10,g10,W10⟩:=g 10 _ rfl
 replace W10:WtOk Go.Proofs.Tryz.prog 4 y10.1:=W10
 replace g10:DataW.trod enc Go.Proofs.Tryz.prog w base sp held n 4 ((cs.drop 30).take (Go.Proofs.Tryz.prog.cellsOf 4))=some y10:=g10
 rw [show Go.Proofs.Tryz.prog.cellsOf 4=1 from by kernel_rfl] at g10
 obtain ⟨a10,e10,_⟩:=DataW.trod_bool Go.Proofs.Tryz.underlying4 g10
 obtain ⟨y11,g11,W11⟩:=g 11 _ rfl
 replace W11:WtOk Go.Proofs.Tryz.prog 36 y11.1:=W11
 replace g11:DataW.trod enc Go.Proofs.Tryz.prog w base sp held n 36 ((cs.drop 31).take (Go.Proofs.Tryz.prog.cellsOf 36))=some y11:=g11
 rw [show Go.Proofs.Tryz.prog.cellsOf 36=1 from by kernel_rfl] at g11
 obtain ⟨a11,e11,_,w11⟩:=DataW.trod_int Go.Proofs.Tryz.underlying36 g11
 obtain ⟨y12,g12,W12⟩:=g 12 _ rfl
 replace W12:WtOk Go.Proofs.Tryz.prog 37 y12.1:=W12
 replace g12:DataW.trod enc Go.Proofs.Tryz.prog w base sp held n 37 ((cs.drop 32).take (Go.Proofs.Tryz.prog.cellsOf 37))=some y12:=g12
 rw [show Go.Proofs.Tryz.prog.cellsOf 37=1 from by kernel_rfl] at g12
 obtain ⟨a12,e12,l12,m12,z12,w12⟩:=open_lsw (cs:=aH.cs) (w':=4) Go.Proofs.Tryz.underlying37 (by kernel_rfl) (fun hW hq=>Fg hW hq) W12 g12
 have r0:cs.drop 0=_ ++ cs.drop 1:=aZ e0
 have r1:cs.drop 1=_ ++ cs.drop 2:=aZ e1
 have r2:cs.drop 2=_ ++ cs.drop 3:=aZ e2
 have r3:cs.drop 3=_ ++ cs.drop 4:=aZ e3
 have r4:cs.drop 4=_ ++ cs.drop 9:=aZ e4
 have r5:cs.drop 9=_ ++ cs.drop 26:=aZ e5
 have r6:cs.drop 26=_ ++ cs.drop 27:=aZ e6
 have r7:cs.drop 27=_ ++ cs.drop 28:=aZ e7
 have r8:cs.drop 28=_ ++ cs.drop 29:=aZ e8
 have r9:cs.drop 29=_ ++ cs.drop 30:=aZ e9
 have r10:cs.drop 30=_ ++ cs.drop 31:=aZ e10
 have r11:cs.drop 31=_ ++ cs.drop 32:=aZ e11
 have r12:cs.drop 32=_ ++ cs.drop 33:=aZ e12
 have rn:cs.drop 33=[]:=xH (hl.trans (by kernel_rfl))
 exact ⟨⟨a0,a1,a2,a3,a4,a5,a6,a7,a8,a9,a10,a11,a12⟩,(List.drop_zero).symm.trans (r0.trans (by rw [r1,r2,r3,r4,r5,r6,r7,r8,r9,r10,r11,r12,rn]; rfl)),w0,w1,w2,⟨l3,m3,(by rw [show Go.Proofs.Tryz.prog.bytesOf 89=48 from by kernel_rfl] at z3; exact z3),w3⟩,w4,w5,w6,⟨l7,m7,(by rw [show Go.Proofs.Tryz.prog.bytesOf 3=8 from by kernel_rfl] at z7; exact z7),w7⟩,⟨l8,m8,(by rw [show Go.Proofs.Tryz.prog.bytesOf 3=8 from by kernel_rfl] at z8; exact z8),w8⟩,w9,trivial,w11,⟨l12,m12,(by rw [show Go.Proofs.Tryz.prog.bytesOf 118=40 from by kernel_rfl] at z12; exact z12),w12⟩⟩
def Ok_S_quaestorlaw31_Act (h:Heap) (v:S_quaestorlaw31_Act):Prop:=((Lit.int .i64 v.aJ).wf=true)/\(Ef h v.f_O)/\((Lit.int .u64 v.f_N).wf=true)/\((Lit.int .i64 v.aR).wf=true)/\(v.f_L.len<=v.f_L.cap/\v.f_L.cap<=maxLen/\v.f_L.len * 48<=140737488351232/\∃ ys:List ae,LsAt ae.cs 5 h v.f_L ys/\∀ y∈ys,wy h y)/\((Lit.int .i64 v.f_E).wf=true)
theorem open_S_quaestorlaw31_Act {fuel:Nat} {cs:List Value} {x:DataW H × List MemPlace} (W:WtOk Go.Proofs.Tryz.prog 41 x.1) (h:DataW.trod enc Go.Proofs.Tryz.prog w base sp held fuel 41 cs=some x):∃ v:S_quaestorlaw31_Act,cs=S_quaestorlaw31_Act.cs v/\Ok_S_quaestorlaw31_Act w.heap v:=by
 obtain ⟨n,hl,g⟩:=uk Go.Proofs.Tryz.underlying41 W h
 obtain ⟨y0,g0,W0⟩:=g 0 _ rfl
 replace W0:WtOk Go.Proofs.Tryz.prog 3 y0.1:=W0
 replace g0:DataW.trod enc Go.Proofs.Tryz.prog w base sp held n 3 ((cs.drop 0).take (Go.Proofs.Tryz.prog.cellsOf 3))=some y0:=g0
 rw [show Go.Proofs.Tryz.prog.cellsOf 3=1 from by kernel_rfl] at g0
 obtain ⟨a0,e0,_,w0⟩:=DataW.trod_int Go.Proofs.Tryz.underlying3 g0
 obtain ⟨y1,g1,W1⟩:=g 1 _ rfl
 replace W1:WtOk Go.Proofs.Tryz.prog 39 y1.1:=W1
 replace g1:DataW.trod enc Go.Proofs.Tryz.prog w base sp held n 39 ((cs.drop 1).take (Go.Proofs.Tryz.prog.cellsOf 39))=some y1:=g1
 rw [show Go.Proofs.Tryz.prog.cellsOf 39=33 from by kernel_rfl] at g1
 obtain ⟨a1,e1,w1⟩:=Fy W1 g1
 obtain ⟨y2,g2,W2⟩:=g 2 _ rfl
 replace W2:WtOk Go.Proofs.Tryz.prog 25 y2.1:=W2
 replace g2:DataW.trod enc Go.Proofs.Tryz.prog w base sp held n 25 ((cs.drop 34).take (Go.Proofs.Tryz.prog.cellsOf 25))=some y2:=g2
 rw [show Go.Proofs.Tryz.prog.cellsOf 25=1 from by kernel_rfl] at g2
 obtain ⟨a2,e2,_,w2⟩:=DataW.trod_int Go.Proofs.Tryz.underlying25 g2
 obtain ⟨y3,g3,W3⟩:=g 3 _ rfl
 replace W3:WtOk Go.Proofs.Tryz.prog 3 y3.1:=W3
 replace g3:DataW.trod enc Go.Proofs.Tryz.prog w base sp held n 3 ((cs.drop 35).take (Go.Proofs.Tryz.prog.cellsOf 3))=some y3:=g3
 rw [show Go.Proofs.Tryz.prog.cellsOf 3=1 from by kernel_rfl] at g3
 obtain ⟨a3,e3,_,w3⟩:=DataW.trod_int Go.Proofs.Tryz.underlying3 g3
 obtain ⟨y4,g4,W4⟩:=g 4 _ rfl
 replace W4:WtOk Go.Proofs.Tryz.prog 26 y4.1:=W4
 replace g4:DataW.trod enc Go.Proofs.Tryz.prog w base sp held n 26 ((cs.drop 36).take (Go.Proofs.Tryz.prog.cellsOf 26))=some y4:=g4
 rw [show Go.Proofs.Tryz.prog.cellsOf 26=1 from by kernel_rfl] at g4
 obtain ⟨a4,e4,l4,m4,z4,w4⟩:=open_lsw (cs:=ae.cs) (w':=5) Go.Proofs.Tryz.underlying26 (by kernel_rfl) (fun hW hq=>yK hW hq) W4 g4
 obtain ⟨y5,g5,W5⟩:=g 5 _ rfl
 replace W5:WtOk Go.Proofs.Tryz.prog 36 y5.1:=W5
 replace g5:DataW.trod enc Go.Proofs.Tryz.prog w base sp held n 36 ((cs.drop 37).take (Go.Proofs.Tryz.prog.cellsOf 36))=some y5:=g5
 rw [show Go.Proofs.Tryz.prog.cellsOf 36=1 from by kernel_rfl] at g5
 obtain ⟨a5,e5,_,w5⟩:=DataW.trod_int Go.Proofs.Tryz.underlying36 g5
 have r0:cs.drop 0=_ ++ cs.drop 1:=aZ e0
 have r1:cs.drop 1=_ ++ cs.drop 34:=aZ e1
 have r2:cs.drop 34=_ ++ cs.drop 35:=aZ e2
 have r3:cs.drop 35=_ ++ cs.drop 36:=aZ e3
 have r4:cs.drop 36=_ ++ cs.drop 37:=aZ e4
 have r5:cs.drop 37=_ ++ cs.drop 38:=aZ e5
 have rn:cs.drop 38=[]:=xH (hl.trans (by kernel_rfl))
 exact ⟨⟨a0,a1,a2,a3,a4,a5⟩,(List.drop_zero).symm.trans (r0.trans (by rw [r1,r2,r3,r4,r5,rn]; rfl)),w0,w1,w2,w3,⟨l4,m4,(by rw [show Go.Proofs.Tryz.prog.bytesOf 89=48 from by kernel_rfl] at z4; exact z4),w4⟩,w5⟩
end
end Go.Q.Yq
end
section
/- QuorumPlays: the acts that came in. -/
namespace Go.Q.Yq
theorem NR {h:Heap} {v:S_quaestorlaw31_Act} (o:Ok_S_quaestorlaw31_Act h v):∃ l op,OG h v l op:=by
 obtain ⟨_,⟨_,_,_,⟨_,_,pz,ps,Lp,op⟩,⟨_,_,_,_,st⟩,⟨_,_,_,_,⟨_,_,wz,ws,wS⟩,_⟩,_,⟨nl,_,nz,ns,nS⟩,⟨_,_,yz,ys,yS⟩,_,_,_,⟨_,_,rz,rs,Lr,_⟩⟩,_,_,⟨_,_,_,l,Ll,ol⟩,_⟩:=o
 have pl:=Lp.l; have rl:=Lr.l; have n1:=nS.1; have y1:=yS.1; have w1:=wS.1
 refine ⟨l,⟨bare v.f_O,ps,ns,ys,rs,ws⟩,Ll,⟨rfl,Lp.J7 (w:=5) (fun _=>rfl) (by decide),Lp.l,nS.2.1,nS.1,nl,yS.2.1,yS.1,Lr.J7 (w:=4) (fun _=>rfl) (by decide),Lr.l,wS.2.1,wS.1⟩,⟨?_,?_,?_,?_,?_⟩,fun p hp=>?_,fun p hp=>?_,wf_i64 st⟩
 ·show ps.length * 48<=_; rw [← pl]; omega
 ·show ns.length * 8<=_; rw [← n1]; omega
 ·show ys.length * 8<=_; rw [← y1]; omega
 ·show rs.length * 40<=_; rw [← rl]; omega
 ·show ws.length * 1<=_; rw [← w1]; omega
 ·obtain ⟨_,t,w,_⟩:=ol p hp; exact ⟨wf_i64 w,wf_i64 t⟩
 ·obtain ⟨_,t,w,_⟩:=op p hp; exact ⟨wf_i64 w,wf_i64 t⟩
theorem plays_all {h:Heap} {p0:Slc} {k:KP Bool} (oc:∃ ys:List S_quaestorlaw31_Act,LsAt S_quaestorlaw31_Act.cs 38 h p0 ys/\∀ y∈ys,Ok_S_quaestorlaw31_Act h y) (H:∀ h',Ext h.size h h'->k true h'):oD p0 k h:=by
 obtain ⟨ys,L,oy⟩:=oc
 exact Mm L (fun a ha=>NR (oy a ha)) H
end Go.Q.Yq
end

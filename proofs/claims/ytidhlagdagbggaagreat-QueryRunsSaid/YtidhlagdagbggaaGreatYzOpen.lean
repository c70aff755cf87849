/- A part of the proof of statements of this seat: lemmas, no statement of their own. -/
import Derived.Test.YtidhlagdagbggaaGreatYzTab
import Derived.Test.YtidhlagdagbggaaGreatQOpen
set_option linter.unusedVariables false
set_option maxRecDepth 100000
set_option maxHeartbeats 1000000
namespace Go.Q.Yz
open Go.ChangeShapes Go.WideShapes
section
variable {H : Type} {enc : TypeId × Value → H} {w : World} {base : Nat} {sp : Nat → Bool} {held : Bool}
def Ok_S_api_Query (h : Heap) (v : S_api_Query) : Prop := (v.f_Select.size ≤ maxLen) ∧ ((Lit.int .i64 v.f_From).wf = true) ∧ ((Lit.int .i64 v.f_To).wf = true) ∧ ((Lit.int .i64 v.f_Agg).wf = true) ∧ ((Lit.int .i64 v.f_Step).wf = true)

theorem open_S_api_Query {fuel : Nat} {cs : List Value} {x : DataW H × List MemPlace} (h : DataW.trod enc Go.Proofs.Tryz.prog w base sp held fuel 23 cs = some x) : ∃ v : S_api_Query, cs = S_api_Query.cs v ∧ Ok_S_api_Query w.heap v := by
  obtain ⟨n, hl, g⟩ := open_fs Go.Proofs.Tryz.underlying23 h
  obtain ⟨y0, g0⟩ := g 0 _ rfl
  replace g0 : DataW.trod enc Go.Proofs.Tryz.prog w base sp held n 9 ((cs.drop 0).take (Go.Proofs.Tryz.prog.cellsOf 9)) = some y0 := g0
  rw [show Go.Proofs.Tryz.prog.cellsOf 9 = 1 from by kernel_rfl] at g0
  obtain ⟨a0, e0, _, w0⟩ := DataW.trod_string Go.Proofs.Tryz.underlying9 g0
  obtain ⟨y1, g1⟩ := g 1 _ rfl
  replace g1 : DataW.trod enc Go.Proofs.Tryz.prog w base sp held n 2 ((cs.drop 1).take (Go.Proofs.Tryz.prog.cellsOf 2)) = some y1 := g1
  rw [show Go.Proofs.Tryz.prog.cellsOf 2 = 1 from by kernel_rfl] at g1
  obtain ⟨a1, e1, _, w1⟩ := DataW.trod_int Go.Proofs.Tryz.underlying2 g1
  obtain ⟨y2, g2⟩ := g 2 _ rfl
  replace g2 : DataW.trod enc Go.Proofs.Tryz.prog w base sp held n 2 ((cs.drop 2).take (Go.Proofs.Tryz.prog.cellsOf 2)) = some y2 := g2
  rw [show Go.Proofs.Tryz.prog.cellsOf 2 = 1 from by kernel_rfl] at g2
  obtain ⟨a2, e2, _, w2⟩ := DataW.trod_int Go.Proofs.Tryz.underlying2 g2
  obtain ⟨y3, g3⟩ := g 3 _ rfl
  replace g3 : DataW.trod enc Go.Proofs.Tryz.prog w base sp held n 3 ((cs.drop 3).take (Go.Proofs.Tryz.prog.cellsOf 3)) = some y3 := g3
  rw [show Go.Proofs.Tryz.prog.cellsOf 3 = 1 from by kernel_rfl] at g3
  obtain ⟨a3, e3, _, w3⟩ := DataW.trod_int Go.Proofs.Tryz.underlying3 g3
  obtain ⟨y4, g4⟩ := g 4 _ rfl
  replace g4 : DataW.trod enc Go.Proofs.Tryz.prog w base sp held n 2 ((cs.drop 4).take (Go.Proofs.Tryz.prog.cellsOf 2)) = some y4 := g4
  rw [show Go.Proofs.Tryz.prog.cellsOf 2 = 1 from by kernel_rfl] at g4
  obtain ⟨a4, e4, _, w4⟩ := DataW.trod_int Go.Proofs.Tryz.underlying2 g4
  have r0 : cs.drop 0 = _ ++ cs.drop 1 := cat_part e0
  have r1 : cs.drop 1 = _ ++ cs.drop 2 := cat_part e1
  have r2 : cs.drop 2 = _ ++ cs.drop 3 := cat_part e2
  have r3 : cs.drop 3 = _ ++ cs.drop 4 := cat_part e3
  have r4 : cs.drop 4 = _ ++ cs.drop 5 := cat_part e4
  have rn : cs.drop 5 = [] := cat_end (hl.trans (by kernel_rfl))
  exact ⟨⟨a0, a1, a2, a3, a4⟩, (List.drop_zero).symm.trans (r0.trans (by rw [r1, r2, r3, r4, rn]; rfl)), w0, w1, w2, w3, w4⟩

def Ok_S_api_Id (h : Heap) (v : S_api_Id) : Prop := ((Lit.int .u64 v.f_N).wf = true) ∧ ((Lit.int .u16 v.f_Node).wf = true)

theorem open_S_api_Id {fuel : Nat} {cs : List Value} {x : DataW H × List MemPlace} (h : DataW.trod enc Go.Proofs.Tryz.prog w base sp held fuel 44 cs = some x) : ∃ v : S_api_Id, cs = S_api_Id.cs v ∧ Ok_S_api_Id w.heap v := by
  obtain ⟨n, hl, g⟩ := open_fs Go.Proofs.Tryz.underlying44 h
  obtain ⟨y0, g0⟩ := g 0 _ rfl
  replace g0 : DataW.trod enc Go.Proofs.Tryz.prog w base sp held n 41 ((cs.drop 0).take (Go.Proofs.Tryz.prog.cellsOf 41)) = some y0 := g0
  rw [show Go.Proofs.Tryz.prog.cellsOf 41 = 1 from by kernel_rfl] at g0
  obtain ⟨a0, e0, _, w0⟩ := DataW.trod_int Go.Proofs.Tryz.underlying41 g0
  obtain ⟨y1, g1⟩ := g 1 _ rfl
  replace g1 : DataW.trod enc Go.Proofs.Tryz.prog w base sp held n 42 ((cs.drop 1).take (Go.Proofs.Tryz.prog.cellsOf 42)) = some y1 := g1
  rw [show Go.Proofs.Tryz.prog.cellsOf 42 = 1 from by kernel_rfl] at g1
  obtain ⟨a1, e1, _, w1⟩ := DataW.trod_int Go.Proofs.Tryz.underlying42 g1
  have r0 : cs.drop 0 = _ ++ cs.drop 1 := cat_part e0
  have r1 : cs.drop 1 = _ ++ cs.drop 2 := cat_part e1
  have rn : cs.drop 2 = [] := cat_end (hl.trans (by kernel_rfl))
  exact ⟨⟨a0, a1⟩, (List.drop_zero).symm.trans (r0.trans (by rw [r1, rn]; rfl)), w0, w1⟩

def Ok_S_api_Piece (h : Heap) (v : S_api_Piece) : Prop := (v.f_Series.size ≤ maxLen) ∧ ((Lit.int .i64 v.f_T).wf = true) ∧ ((Lit.int .i64 v.f_V).wf = true) ∧ (Ok_S_api_Id h v.f_Id)

theorem open_S_api_Piece {fuel : Nat} {cs : List Value} {x : DataW H × List MemPlace} (h : DataW.trod enc Go.Proofs.Tryz.prog w base sp held fuel 46 cs = some x) : ∃ v : S_api_Piece, cs = S_api_Piece.cs v ∧ Ok_S_api_Piece w.heap v := by
  obtain ⟨n, hl, g⟩ := open_fs Go.Proofs.Tryz.underlying46 h
  obtain ⟨y0, g0⟩ := g 0 _ rfl
  replace g0 : DataW.trod enc Go.Proofs.Tryz.prog w base sp held n 9 ((cs.drop 0).take (Go.Proofs.Tryz.prog.cellsOf 9)) = some y0 := g0
  rw [show Go.Proofs.Tryz.prog.cellsOf 9 = 1 from by kernel_rfl] at g0
  obtain ⟨a0, e0, _, w0⟩ := DataW.trod_string Go.Proofs.Tryz.underlying9 g0
  obtain ⟨y1, g1⟩ := g 1 _ rfl
  replace g1 : DataW.trod enc Go.Proofs.Tryz.prog w base sp held n 2 ((cs.drop 1).take (Go.Proofs.Tryz.prog.cellsOf 2)) = some y1 := g1
  rw [show Go.Proofs.Tryz.prog.cellsOf 2 = 1 from by kernel_rfl] at g1
  obtain ⟨a1, e1, _, w1⟩ := DataW.trod_int Go.Proofs.Tryz.underlying2 g1
  obtain ⟨y2, g2⟩ := g 2 _ rfl
  replace g2 : DataW.trod enc Go.Proofs.Tryz.prog w base sp held n 2 ((cs.drop 2).take (Go.Proofs.Tryz.prog.cellsOf 2)) = some y2 := g2
  rw [show Go.Proofs.Tryz.prog.cellsOf 2 = 1 from by kernel_rfl] at g2
  obtain ⟨a2, e2, _, w2⟩ := DataW.trod_int Go.Proofs.Tryz.underlying2 g2
  obtain ⟨y3, g3⟩ := g 3 _ rfl
  replace g3 : DataW.trod enc Go.Proofs.Tryz.prog w base sp held n 44 ((cs.drop 3).take (Go.Proofs.Tryz.prog.cellsOf 44)) = some y3 := g3
  rw [show Go.Proofs.Tryz.prog.cellsOf 44 = 2 from by kernel_rfl] at g3
  obtain ⟨a3, e3, w3⟩ := open_S_api_Id g3
  have r0 : cs.drop 0 = _ ++ cs.drop 1 := cat_part e0
  have r1 : cs.drop 1 = _ ++ cs.drop 2 := cat_part e1
  have r2 : cs.drop 2 = _ ++ cs.drop 3 := cat_part e2
  have r3 : cs.drop 3 = _ ++ cs.drop 5 := cat_part e3
  have rn : cs.drop 5 = [] := cat_end (hl.trans (by kernel_rfl))
  exact ⟨⟨a0, a1, a2, a3⟩, (List.drop_zero).symm.trans (r0.trans (by rw [r1, r2, r3, rn]; rfl)), w0, w1, w2, w3⟩
end
end Go.Q.Yz

/- A part of the proof of statements of this seat: lemmas, no statement of their own. -/
import Derived.Test.YtoapfefofjfifaaGreatYcTab
import Derived.Test.YtoapfefofjfifaaGreatQOpen
set_option linter.unusedVariables false
set_option maxRecDepth 100000
set_option maxHeartbeats 1000000
namespace Go.Q.Yc
open Go.ChangeShapes Go.WideShapes
section
variable {H : Type} {enc : TypeId × Value → H} {w : World} {base : Nat} {sp : Nat → Bool} {held : Bool}
def Ok_S_api_Id (h : Heap) (v : S_api_Id) : Prop := ((Lit.int .u64 v.f_N).wf = true) ∧ ((Lit.int .u16 v.f_Node).wf = true)

theorem open_S_api_Id {fuel : Nat} {cs : List Value} {x : DataW H × List MemPlace} (h : DataW.trod enc Go.Proofs.Tryz.prog w base sp held fuel 73 cs = some x) : ∃ v : S_api_Id, cs = S_api_Id.cs v ∧ Ok_S_api_Id w.heap v := by
  obtain ⟨n, hl, g⟩ := open_fs Go.Proofs.Tryz.underlying73 h
  obtain ⟨y0, g0⟩ := g 0 _ rfl
  replace g0 : DataW.trod enc Go.Proofs.Tryz.prog w base sp held n 29 ((cs.drop 0).take (Go.Proofs.Tryz.prog.cellsOf 29)) = some y0 := g0
  rw [show Go.Proofs.Tryz.prog.cellsOf 29 = 1 from by kernel_rfl] at g0
  obtain ⟨a0, e0, _, w0⟩ := DataW.trod_int Go.Proofs.Tryz.underlying29 g0
  obtain ⟨y1, g1⟩ := g 1 _ rfl
  replace g1 : DataW.trod enc Go.Proofs.Tryz.prog w base sp held n 71 ((cs.drop 1).take (Go.Proofs.Tryz.prog.cellsOf 71)) = some y1 := g1
  rw [show Go.Proofs.Tryz.prog.cellsOf 71 = 1 from by kernel_rfl] at g1
  obtain ⟨a1, e1, _, w1⟩ := DataW.trod_int Go.Proofs.Tryz.underlying71 g1
  have r0 : cs.drop 0 = _ ++ cs.drop 1 := cat_part e0
  have r1 : cs.drop 1 = _ ++ cs.drop 2 := cat_part e1
  have rn : cs.drop 2 = [] := cat_end (hl.trans (by kernel_rfl))
  exact ⟨⟨a0, a1⟩, (List.drop_zero).symm.trans (r0.trans (by rw [r1, rn]; rfl)), w0, w1⟩

def Ok_S_api_Piece (h : Heap) (v : S_api_Piece) : Prop := (v.f_Series.size ≤ maxLen) ∧ ((Lit.int .i64 v.f_T).wf = true) ∧ ((Lit.int .i64 v.f_V).wf = true) ∧ (Ok_S_api_Id h v.f_Id)

theorem open_S_api_Piece {fuel : Nat} {cs : List Value} {x : DataW H × List MemPlace} (h : DataW.trod enc Go.Proofs.Tryz.prog w base sp held fuel 75 cs = some x) : ∃ v : S_api_Piece, cs = S_api_Piece.cs v ∧ Ok_S_api_Piece w.heap v := by
  obtain ⟨n, hl, g⟩ := open_fs Go.Proofs.Tryz.underlying75 h
  obtain ⟨y0, g0⟩ := g 0 _ rfl
  replace g0 : DataW.trod enc Go.Proofs.Tryz.prog w base sp held n 9 ((cs.drop 0).take (Go.Proofs.Tryz.prog.cellsOf 9)) = some y0 := g0
  rw [show Go.Proofs.Tryz.prog.cellsOf 9 = 1 from by kernel_rfl] at g0
  obtain ⟨a0, e0, _, w0⟩ := DataW.trod_string Go.Proofs.Tryz.underlying9 g0
  obtain ⟨y1, g1⟩ := g 1 _ rfl
  replace g1 : DataW.trod enc Go.Proofs.Tryz.prog w base sp held n 2 ((cs.drop 1).take (Go.Proofs.Tryz.prog.cellsOf 2)) = some y1 := g1
  rw [show Go.Proofs.Tryz.prog.cellsOf 2 = 1 from by kernel_rfl] at g1
  obtain ⟨a1, e1, _, w1⟩ := DataW.trod_int Go.Proofs.Tryz.underlying2 g1
  obtain ⟨y2, g2⟩ := g 2 _ rfl
  replace g2 : DataW.trod enc Go.Proofs.Tryz.prog w base sp held n 2 ((cs.drop 2).take (Go.Proofs.Tryz.prog.cellsOf 2)) = some y2 := g2
  rw [show Go.Proofs.Tryz.prog.cellsOf 2 = 1 from by kernel_rfl] at g2
  obtain ⟨a2, e2, _, w2⟩ := DataW.trod_int Go.Proofs.Tryz.underlying2 g2
  obtain ⟨y3, g3⟩ := g 3 _ rfl
  replace g3 : DataW.trod enc Go.Proofs.Tryz.prog w base sp held n 73 ((cs.drop 3).take (Go.Proofs.Tryz.prog.cellsOf 73)) = some y3 := g3
  rw [show Go.Proofs.Tryz.prog.cellsOf 73 = 2 from by kernel_rfl] at g3
  obtain ⟨a3, e3, w3⟩ := open_S_api_Id g3
  have r0 : cs.drop 0 = _ ++ cs.drop 1 := cat_part e0
  have r1 : cs.drop 1 = _ ++ cs.drop 2 := cat_part e1
  have r2 : cs.drop 2 = _ ++ cs.drop 3 := cat_part e2
  have r3 : cs.drop 3 = _ ++ cs.drop 5 := cat_part e3
  have rn : cs.drop 5 = [] := cat_end (hl.trans (by kernel_rfl))
  exact ⟨⟨a0, a1, a2, a3⟩, (List.drop_zero).symm.trans (r0.trans (by rw [r1, r2, r3, rn]; rfl)), w0, w1, w2, w3⟩

def Ok_S_api_Query (h : Heap) (v : S_api_Query) : Prop := (v.f_Select.size ≤ maxLen) ∧ ((Lit.int .i64 v.f_From).wf = true) ∧ ((Lit.int .i64 v.f_To).wf = true) ∧ ((Lit.int .i64 v.f_Agg).wf = true) ∧ ((Lit.int .i64 v.f_Step).wf = true)

theorem open_S_api_Query {fuel : Nat} {cs : List Value} {x : DataW H × List MemPlace} (h : DataW.trod enc Go.Proofs.Tryz.prog w base sp held fuel 32 cs = some x) : ∃ v : S_api_Query, cs = S_api_Query.cs v ∧ Ok_S_api_Query w.heap v := by
  obtain ⟨n, hl, g⟩ := open_fs Go.Proofs.Tryz.underlying32 h
  obtain ⟨y0, g0⟩ := g 0 _ rfl
  replace g0 : DataW.trod enc Go.Proofs.Tryz.prog w base sp held n 9 ((cs.drop 0).take (Go.Proofs.Tryz.prog.cellsOf 9)) = some y0 := g0
  rw [show Go.Proofs.Tryz.prog.cellsOf 9 = 1 from by kernel_rfl] at g0
  obtain ⟨a0, e0, _, w0⟩ := DataW.trod_string Go.Proofs.Tryz.underlying9 g0
  obtain ⟨y1, g1⟩ := g 1 _ rfl
  replace g1 : DataW.trod enc Go.Proofs.Tryz.prog w base sp held n 2 ((cs.drop 1).take (Go.Proofs.Tryz.prog.cellsOf 2)) = some y1 := g1
  rw [show Go.Proofs.Tryz.prog.cellsOf 2 = 1 from by kernel_rfl] at g1
  obtain ⟨a1, e1, _, w1⟩ := DataW.trod_int Go.Proofs.Tryz.underlying2 g1
  obtain ⟨y2, g2⟩ := g 2 _ rfl
  replace g2 : DataW.trod enc Go.Proofs.Tryz.prog w base sp held n 2 ((cs.drop 2).take (Go.Proofs.Tryz.prog.cellsOf 2)) = some y2 := g2
  rw [show Go.Proofs.Tryz.prog.cellsOf 2 = 1 from by kernel_rfl] at g2
  obtain ⟨a2, e2, _, w2⟩ := DataW.trod_int Go.Proofs.Tryz.underlying2 g2
  obtain ⟨y3, g3⟩ := g 3 _ rfl
  replace g3 : DataW.trod enc Go.Proofs.Tryz.prog w base sp held n 3 ((cs.drop 3).take (Go.Proofs.Tryz.prog.cellsOf 3)) = some y3 := g3
  rw [show Go.Proofs.Tryz.prog.cellsOf 3 = 1 from by kernel_rfl] at g3
  obtain ⟨a3, e3, _, w3⟩ := DataW.trod_int Go.Proofs.Tryz.underlying3 g3
  obtain ⟨y4, g4⟩ := g 4 _ rfl
  replace g4 : DataW.trod enc Go.Proofs.Tryz.prog w base sp held n 2 ((cs.drop 4).take (Go.Proofs.Tryz.prog.cellsOf 2)) = some y4 := g4
  rw [show Go.Proofs.Tryz.prog.cellsOf 2 = 1 from by kernel_rfl] at g4
  obtain ⟨a4, e4, _, w4⟩ := DataW.trod_int Go.Proofs.Tryz.underlying2 g4
  have r0 : cs.drop 0 = _ ++ cs.drop 1 := cat_part e0
  have r1 : cs.drop 1 = _ ++ cs.drop 2 := cat_part e1
  have r2 : cs.drop 2 = _ ++ cs.drop 3 := cat_part e2
  have r3 : cs.drop 3 = _ ++ cs.drop 4 := cat_part e3
  have r4 : cs.drop 4 = _ ++ cs.drop 5 := cat_part e4
  have rn : cs.drop 5 = [] := cat_end (hl.trans (by kernel_rfl))
  exact ⟨⟨a0, a1, a2, a3, a4⟩, (List.drop_zero).symm.trans (r0.trans (by rw [r1, r2, r3, r4, rn]; rfl)), w0, w1, w2, w3, w4⟩

def Ok_S_api_Command (h : Heap) (v : S_api_Command) : Prop := ((Lit.int .i64 v.f_Kind).wf = true) ∧ (v.f_Tenant.size ≤ maxLen) ∧ ((Lit.int .u32 v.f_Epoch).wf = true) ∧ (v.f_Nonce.length = 12 ∧ ∀ x ∈ v.f_Nonce, (Lit.int .u8 x).wf = true) ∧ (v.f_Wrapped.len ≤ v.f_Wrapped.cap ∧ v.f_Wrapped.cap ≤ maxLen ∧ ∃ zs, SlI .u8 h v.f_Wrapped zs) ∧ ((Lit.int .i64 v.f_Horizon).wf = true)

theorem open_S_api_Command {fuel : Nat} {cs : List Value} {x : DataW H × List MemPlace} (h : DataW.trod enc Go.Proofs.Tryz.prog w base sp held fuel 37 cs = some x) : ∃ v : S_api_Command, cs = S_api_Command.cs v ∧ Ok_S_api_Command w.heap v := by
  obtain ⟨n, hl, g⟩ := open_fs Go.Proofs.Tryz.underlying37 h
  obtain ⟨y0, g0⟩ := g 0 _ rfl
  replace g0 : DataW.trod enc Go.Proofs.Tryz.prog w base sp held n 3 ((cs.drop 0).take (Go.Proofs.Tryz.prog.cellsOf 3)) = some y0 := g0
  rw [show Go.Proofs.Tryz.prog.cellsOf 3 = 1 from by kernel_rfl] at g0
  obtain ⟨a0, e0, _, w0⟩ := DataW.trod_int Go.Proofs.Tryz.underlying3 g0
  obtain ⟨y1, g1⟩ := g 1 _ rfl
  replace g1 : DataW.trod enc Go.Proofs.Tryz.prog w base sp held n 9 ((cs.drop 1).take (Go.Proofs.Tryz.prog.cellsOf 9)) = some y1 := g1
  rw [show Go.Proofs.Tryz.prog.cellsOf 9 = 1 from by kernel_rfl] at g1
  obtain ⟨a1, e1, _, w1⟩ := DataW.trod_string Go.Proofs.Tryz.underlying9 g1
  obtain ⟨y2, g2⟩ := g 2 _ rfl
  replace g2 : DataW.trod enc Go.Proofs.Tryz.prog w base sp held n 33 ((cs.drop 2).take (Go.Proofs.Tryz.prog.cellsOf 33)) = some y2 := g2
  rw [show Go.Proofs.Tryz.prog.cellsOf 33 = 1 from by kernel_rfl] at g2
  obtain ⟨a2, e2, _, w2⟩ := DataW.trod_int Go.Proofs.Tryz.underlying33 g2
  obtain ⟨y3, g3⟩ := g 3 _ rfl
  replace g3 : DataW.trod enc Go.Proofs.Tryz.prog w base sp held n 35 ((cs.drop 3).take (Go.Proofs.Tryz.prog.cellsOf 35)) = some y3 := g3
  rw [show Go.Proofs.Tryz.prog.cellsOf 35 = 12 from by kernel_rfl] at g3
  obtain ⟨a3, e3, l3, w3⟩ := open_arr Go.Proofs.Tryz.underlying35 Go.Proofs.Tryz.underlying5 (by kernel_rfl) (by kernel_rfl) g3
  obtain ⟨y4, g4⟩ := g 4 _ rfl
  replace g4 : DataW.trod enc Go.Proofs.Tryz.prog w base sp held n 22 ((cs.drop 15).take (Go.Proofs.Tryz.prog.cellsOf 22)) = some y4 := g4
  rw [show Go.Proofs.Tryz.prog.cellsOf 22 = 1 from by kernel_rfl] at g4
  obtain ⟨a4, e4, l4, m4, w4⟩ := open_si Go.Proofs.Tryz.underlying22 Go.Proofs.Tryz.underlying5 (by kernel_rfl) g4
  obtain ⟨y5, g5⟩ := g 5 _ rfl
  replace g5 : DataW.trod enc Go.Proofs.Tryz.prog w base sp held n 2 ((cs.drop 16).take (Go.Proofs.Tryz.prog.cellsOf 2)) = some y5 := g5
  rw [show Go.Proofs.Tryz.prog.cellsOf 2 = 1 from by kernel_rfl] at g5
  obtain ⟨a5, e5, _, w5⟩ := DataW.trod_int Go.Proofs.Tryz.underlying2 g5
  have r0 : cs.drop 0 = _ ++ cs.drop 1 := cat_part e0
  have r1 : cs.drop 1 = _ ++ cs.drop 2 := cat_part e1
  have r2 : cs.drop 2 = _ ++ cs.drop 3 := cat_part e2
  have r3 : cs.drop 3 = _ ++ cs.drop 15 := cat_part e3
  have r4 : cs.drop 15 = _ ++ cs.drop 16 := cat_part e4
  have r5 : cs.drop 16 = _ ++ cs.drop 17 := cat_part e5
  have rn : cs.drop 17 = [] := cat_end (hl.trans (by kernel_rfl))
  exact ⟨⟨a0, a1, a2, a3, a4, a5⟩, (List.drop_zero).symm.trans (r0.trans (by rw [r1, r2, r3, r4, r5, rn]; rfl)), w0, w1, w2, ⟨l3, w3⟩, ⟨l4, m4, w4⟩, w5⟩

def Ok_S_api_Wide (h : Heap) (v : S_api_Wide) : Prop := ((Lit.int .i64 v.f_Hi).wf = true) ∧ ((Lit.int .u64 v.f_Lo).wf = true)

theorem open_S_api_Wide {fuel : Nat} {cs : List Value} {x : DataW H × List MemPlace} (h : DataW.trod enc Go.Proofs.Tryz.prog w base sp held fuel 79 cs = some x) : ∃ v : S_api_Wide, cs = S_api_Wide.cs v ∧ Ok_S_api_Wide w.heap v := by
  obtain ⟨n, hl, g⟩ := open_fs Go.Proofs.Tryz.underlying79 h
  obtain ⟨y0, g0⟩ := g 0 _ rfl
  replace g0 : DataW.trod enc Go.Proofs.Tryz.prog w base sp held n 2 ((cs.drop 0).take (Go.Proofs.Tryz.prog.cellsOf 2)) = some y0 := g0
  rw [show Go.Proofs.Tryz.prog.cellsOf 2 = 1 from by kernel_rfl] at g0
  obtain ⟨a0, e0, _, w0⟩ := DataW.trod_int Go.Proofs.Tryz.underlying2 g0
  obtain ⟨y1, g1⟩ := g 1 _ rfl
  replace g1 : DataW.trod enc Go.Proofs.Tryz.prog w base sp held n 29 ((cs.drop 1).take (Go.Proofs.Tryz.prog.cellsOf 29)) = some y1 := g1
  rw [show Go.Proofs.Tryz.prog.cellsOf 29 = 1 from by kernel_rfl] at g1
  obtain ⟨a1, e1, _, w1⟩ := DataW.trod_int Go.Proofs.Tryz.underlying29 g1
  have r0 : cs.drop 0 = _ ++ cs.drop 1 := cat_part e0
  have r1 : cs.drop 1 = _ ++ cs.drop 2 := cat_part e1
  have rn : cs.drop 2 = [] := cat_end (hl.trans (by kernel_rfl))
  exact ⟨⟨a0, a1⟩, (List.drop_zero).symm.trans (r0.trans (by rw [r1, rn]; rfl)), w0, w1⟩

def Ok_S_api_Row (h : Heap) (v : S_api_Row) : Prop := (v.f_Series.size ≤ maxLen) ∧ ((Lit.int .i64 v.f_T).wf = true) ∧ (Ok_S_api_Wide h v.f_W)

theorem open_S_api_Row {fuel : Nat} {cs : List Value} {x : DataW H × List MemPlace} (h : DataW.trod enc Go.Proofs.Tryz.prog w base sp held fuel 81 cs = some x) : ∃ v : S_api_Row, cs = S_api_Row.cs v ∧ Ok_S_api_Row w.heap v := by
  obtain ⟨n, hl, g⟩ := open_fs Go.Proofs.Tryz.underlying81 h
  obtain ⟨y0, g0⟩ := g 0 _ rfl
  replace g0 : DataW.trod enc Go.Proofs.Tryz.prog w base sp held n 9 ((cs.drop 0).take (Go.Proofs.Tryz.prog.cellsOf 9)) = some y0 := g0
  rw [show Go.Proofs.Tryz.prog.cellsOf 9 = 1 from by kernel_rfl] at g0
  obtain ⟨a0, e0, _, w0⟩ := DataW.trod_string Go.Proofs.Tryz.underlying9 g0
  obtain ⟨y1, g1⟩ := g 1 _ rfl
  replace g1 : DataW.trod enc Go.Proofs.Tryz.prog w base sp held n 2 ((cs.drop 1).take (Go.Proofs.Tryz.prog.cellsOf 2)) = some y1 := g1
  rw [show Go.Proofs.Tryz.prog.cellsOf 2 = 1 from by kernel_rfl] at g1
  obtain ⟨a1, e1, _, w1⟩ := DataW.trod_int Go.Proofs.Tryz.underlying2 g1
  obtain ⟨y2, g2⟩ := g 2 _ rfl
  replace g2 : DataW.trod enc Go.Proofs.Tryz.prog w base sp held n 79 ((cs.drop 2).take (Go.Proofs.Tryz.prog.cellsOf 79)) = some y2 := g2
  rw [show Go.Proofs.Tryz.prog.cellsOf 79 = 2 from by kernel_rfl] at g2
  obtain ⟨a2, e2, w2⟩ := open_S_api_Wide g2
  have r0 : cs.drop 0 = _ ++ cs.drop 1 := cat_part e0
  have r1 : cs.drop 1 = _ ++ cs.drop 2 := cat_part e1
  have r2 : cs.drop 2 = _ ++ cs.drop 4 := cat_part e2
  have rn : cs.drop 4 = [] := cat_end (hl.trans (by kernel_rfl))
  exact ⟨⟨a0, a1, a2⟩, (List.drop_zero).symm.trans (r0.trans (by rw [r1, r2, rn]; rfl)), w0, w1, w2⟩

def Ok_S_api_Op (h : Heap) (v : S_api_Op) : Prop := ((Lit.int .u64 v.f_N).wf = true) ∧ ((Lit.int .i64 v.f_Kind).wf = true) ∧ (v.f_Tenant.size ≤ maxLen) ∧ (v.f_Pieces.len ≤ v.f_Pieces.cap ∧ v.f_Pieces.cap ≤ maxLen ∧ ∃ ys : List S_api_Piece, LsAt S_api_Piece.cs 5 h v.f_Pieces ys ∧ ∀ y ∈ ys, Ok_S_api_Piece h y) ∧ (Ok_S_api_Query h v.f_Q) ∧ (Ok_S_api_Command h v.f_Cmd) ∧ ((Lit.int .i64 v.f_Low).wf = true) ∧ (v.f_Nodes.len ≤ v.f_Nodes.cap ∧ v.f_Nodes.cap ≤ maxLen ∧ ∃ zs, SlI .i64 h v.f_Nodes zs) ∧ (v.f_Yes.len ≤ v.f_Yes.cap ∧ v.f_Yes.cap ≤ maxLen ∧ ∃ zs, SlI .i64 h v.f_Yes zs) ∧ ((Lit.int .i64 v.f_Age).wf = true) ∧ (True) ∧ ((Lit.int .i64 v.f_E).wf = true) ∧ (v.f_Rows.len ≤ v.f_Rows.cap ∧ v.f_Rows.cap ≤ maxLen ∧ ∃ ys : List S_api_Row, LsAt S_api_Row.cs 4 h v.f_Rows ys ∧ ∀ y ∈ ys, Ok_S_api_Row h y)

theorem open_S_api_Op {fuel : Nat} {cs : List Value} {x : DataW H × List MemPlace} (h : DataW.trod enc Go.Proofs.Tryz.prog w base sp held fuel 40 cs = some x) : ∃ v : S_api_Op, cs = S_api_Op.cs v ∧ Ok_S_api_Op w.heap v := by
  obtain ⟨n, hl, g⟩ := open_fs Go.Proofs.Tryz.underlying40 h
  obtain ⟨y0, g0⟩ := g 0 _ rfl
  replace g0 : DataW.trod enc Go.Proofs.Tryz.prog w base sp held n 29 ((cs.drop 0).take (Go.Proofs.Tryz.prog.cellsOf 29)) = some y0 := g0
  rw [show Go.Proofs.Tryz.prog.cellsOf 29 = 1 from by kernel_rfl] at g0
  obtain ⟨a0, e0, _, w0⟩ := DataW.trod_int Go.Proofs.Tryz.underlying29 g0
  obtain ⟨y1, g1⟩ := g 1 _ rfl
  replace g1 : DataW.trod enc Go.Proofs.Tryz.prog w base sp held n 3 ((cs.drop 1).take (Go.Proofs.Tryz.prog.cellsOf 3)) = some y1 := g1
  rw [show Go.Proofs.Tryz.prog.cellsOf 3 = 1 from by kernel_rfl] at g1
  obtain ⟨a1, e1, _, w1⟩ := DataW.trod_int Go.Proofs.Tryz.underlying3 g1
  obtain ⟨y2, g2⟩ := g 2 _ rfl
  replace g2 : DataW.trod enc Go.Proofs.Tryz.prog w base sp held n 9 ((cs.drop 2).take (Go.Proofs.Tryz.prog.cellsOf 9)) = some y2 := g2
  rw [show Go.Proofs.Tryz.prog.cellsOf 9 = 1 from by kernel_rfl] at g2
  obtain ⟨a2, e2, _, w2⟩ := DataW.trod_string Go.Proofs.Tryz.underlying9 g2
  obtain ⟨y3, g3⟩ := g 3 _ rfl
  replace g3 : DataW.trod enc Go.Proofs.Tryz.prog w base sp held n 30 ((cs.drop 3).take (Go.Proofs.Tryz.prog.cellsOf 30)) = some y3 := g3
  rw [show Go.Proofs.Tryz.prog.cellsOf 30 = 1 from by kernel_rfl] at g3
  obtain ⟨a3, e3, l3, m3, w3⟩ := open_ls (cs := S_api_Piece.cs) (w' := 5) Go.Proofs.Tryz.underlying30 (by kernel_rfl) (fun hq => open_S_api_Piece hq) g3
  obtain ⟨y4, g4⟩ := g 4 _ rfl
  replace g4 : DataW.trod enc Go.Proofs.Tryz.prog w base sp held n 32 ((cs.drop 4).take (Go.Proofs.Tryz.prog.cellsOf 32)) = some y4 := g4
  rw [show Go.Proofs.Tryz.prog.cellsOf 32 = 5 from by kernel_rfl] at g4
  obtain ⟨a4, e4, w4⟩ := open_S_api_Query g4
  obtain ⟨y5, g5⟩ := g 5 _ rfl
  replace g5 : DataW.trod enc Go.Proofs.Tryz.prog w base sp held n 37 ((cs.drop 9).take (Go.Proofs.Tryz.prog.cellsOf 37)) = some y5 := g5
  rw [show Go.Proofs.Tryz.prog.cellsOf 37 = 17 from by kernel_rfl] at g5
  obtain ⟨a5, e5, w5⟩ := open_S_api_Command g5
  obtain ⟨y6, g6⟩ := g 6 _ rfl
  replace g6 : DataW.trod enc Go.Proofs.Tryz.prog w base sp held n 2 ((cs.drop 26).take (Go.Proofs.Tryz.prog.cellsOf 2)) = some y6 := g6
  rw [show Go.Proofs.Tryz.prog.cellsOf 2 = 1 from by kernel_rfl] at g6
  obtain ⟨a6, e6, _, w6⟩ := DataW.trod_int Go.Proofs.Tryz.underlying2 g6
  obtain ⟨y7, g7⟩ := g 7 _ rfl
  replace g7 : DataW.trod enc Go.Proofs.Tryz.prog w base sp held n 26 ((cs.drop 27).take (Go.Proofs.Tryz.prog.cellsOf 26)) = some y7 := g7
  rw [show Go.Proofs.Tryz.prog.cellsOf 26 = 1 from by kernel_rfl] at g7
  obtain ⟨a7, e7, l7, m7, w7⟩ := open_si Go.Proofs.Tryz.underlying26 Go.Proofs.Tryz.underlying3 (by kernel_rfl) g7
  obtain ⟨y8, g8⟩ := g 8 _ rfl
  replace g8 : DataW.trod enc Go.Proofs.Tryz.prog w base sp held n 26 ((cs.drop 28).take (Go.Proofs.Tryz.prog.cellsOf 26)) = some y8 := g8
  rw [show Go.Proofs.Tryz.prog.cellsOf 26 = 1 from by kernel_rfl] at g8
  obtain ⟨a8, e8, l8, m8, w8⟩ := open_si Go.Proofs.Tryz.underlying26 Go.Proofs.Tryz.underlying3 (by kernel_rfl) g8
  obtain ⟨y9, g9⟩ := g 9 _ rfl
  replace g9 : DataW.trod enc Go.Proofs.Tryz.prog w base sp held n 3 ((cs.drop 29).take (Go.Proofs.Tryz.prog.cellsOf 3)) = some y9 := g9
  rw [show Go.Proofs.Tryz.prog.cellsOf 3 = 1 from by kernel_rfl] at g9
  obtain ⟨a9, e9, _, w9⟩ := DataW.trod_int Go.Proofs.Tryz.underlying3 g9
  obtain ⟨y10, g10⟩ := g 10 _ rfl
  replace g10 : DataW.trod enc Go.Proofs.Tryz.prog w base sp held n 4 ((cs.drop 30).take (Go.Proofs.Tryz.prog.cellsOf 4)) = some y10 := g10
  rw [show Go.Proofs.Tryz.prog.cellsOf 4 = 1 from by kernel_rfl] at g10
  obtain ⟨a10, e10, _⟩ := DataW.trod_bool Go.Proofs.Tryz.underlying4 g10
  obtain ⟨y11, g11⟩ := g 11 _ rfl
  replace g11 : DataW.trod enc Go.Proofs.Tryz.prog w base sp held n 27 ((cs.drop 31).take (Go.Proofs.Tryz.prog.cellsOf 27)) = some y11 := g11
  rw [show Go.Proofs.Tryz.prog.cellsOf 27 = 1 from by kernel_rfl] at g11
  obtain ⟨a11, e11, _, w11⟩ := DataW.trod_int Go.Proofs.Tryz.underlying27 g11
  obtain ⟨y12, g12⟩ := g 12 _ rfl
  replace g12 : DataW.trod enc Go.Proofs.Tryz.prog w base sp held n 38 ((cs.drop 32).take (Go.Proofs.Tryz.prog.cellsOf 38)) = some y12 := g12
  rw [show Go.Proofs.Tryz.prog.cellsOf 38 = 1 from by kernel_rfl] at g12
  obtain ⟨a12, e12, l12, m12, w12⟩ := open_ls (cs := S_api_Row.cs) (w' := 4) Go.Proofs.Tryz.underlying38 (by kernel_rfl) (fun hq => open_S_api_Row hq) g12
  have r0 : cs.drop 0 = _ ++ cs.drop 1 := cat_part e0
  have r1 : cs.drop 1 = _ ++ cs.drop 2 := cat_part e1
  have r2 : cs.drop 2 = _ ++ cs.drop 3 := cat_part e2
  have r3 : cs.drop 3 = _ ++ cs.drop 4 := cat_part e3
  have r4 : cs.drop 4 = _ ++ cs.drop 9 := cat_part e4
  have r5 : cs.drop 9 = _ ++ cs.drop 26 := cat_part e5
  have r6 : cs.drop 26 = _ ++ cs.drop 27 := cat_part e6
  have r7 : cs.drop 27 = _ ++ cs.drop 28 := cat_part e7
  have r8 : cs.drop 28 = _ ++ cs.drop 29 := cat_part e8
  have r9 : cs.drop 29 = _ ++ cs.drop 30 := cat_part e9
  have r10 : cs.drop 30 = _ ++ cs.drop 31 := cat_part e10
  have r11 : cs.drop 31 = _ ++ cs.drop 32 := cat_part e11
  have r12 : cs.drop 32 = _ ++ cs.drop 33 := cat_part e12
  have rn : cs.drop 33 = [] := cat_end (hl.trans (by kernel_rfl))
  exact ⟨⟨a0, a1, a2, a3, a4, a5, a6, a7, a8, a9, a10, a11, a12⟩, (List.drop_zero).symm.trans (r0.trans (by rw [r1, r2, r3, r4, r5, r6, r7, r8, r9, r10, r11, r12, rn]; rfl)), w0, w1, w2, ⟨l3, m3, w3⟩, w4, w5, w6, ⟨l7, m7, w7⟩, ⟨l8, m8, w8⟩, w9, trivial, w11, ⟨l12, m12, w12⟩⟩

def Ok_S_quaestorlaw31_Act (h : Heap) (v : S_quaestorlaw31_Act) : Prop := ((Lit.int .i64 v.f_Kind).wf = true) ∧ (Ok_S_api_Op h v.f_O) ∧ ((Lit.int .u64 v.f_N).wf = true) ∧ ((Lit.int .i64 v.f_Node).wf = true) ∧ (v.f_L.len ≤ v.f_L.cap ∧ v.f_L.cap ≤ maxLen ∧ ∃ ys : List S_api_Piece, LsAt S_api_Piece.cs 5 h v.f_L ys ∧ ∀ y ∈ ys, Ok_S_api_Piece h y) ∧ ((Lit.int .i64 v.f_E).wf = true)

theorem open_S_quaestorlaw31_Act {fuel : Nat} {cs : List Value} {x : DataW H × List MemPlace} (h : DataW.trod enc Go.Proofs.Tryz.prog w base sp held fuel 46 cs = some x) : ∃ v : S_quaestorlaw31_Act, cs = S_quaestorlaw31_Act.cs v ∧ Ok_S_quaestorlaw31_Act w.heap v := by
  obtain ⟨n, hl, g⟩ := open_fs Go.Proofs.Tryz.underlying46 h
  obtain ⟨y0, g0⟩ := g 0 _ rfl
  replace g0 : DataW.trod enc Go.Proofs.Tryz.prog w base sp held n 3 ((cs.drop 0).take (Go.Proofs.Tryz.prog.cellsOf 3)) = some y0 := g0
  rw [show Go.Proofs.Tryz.prog.cellsOf 3 = 1 from by kernel_rfl] at g0
  obtain ⟨a0, e0, _, w0⟩ := DataW.trod_int Go.Proofs.Tryz.underlying3 g0
  obtain ⟨y1, g1⟩ := g 1 _ rfl
  replace g1 : DataW.trod enc Go.Proofs.Tryz.prog w base sp held n 40 ((cs.drop 1).take (Go.Proofs.Tryz.prog.cellsOf 40)) = some y1 := g1
  rw [show Go.Proofs.Tryz.prog.cellsOf 40 = 33 from by kernel_rfl] at g1
  obtain ⟨a1, e1, w1⟩ := open_S_api_Op g1
  obtain ⟨y2, g2⟩ := g 2 _ rfl
  replace g2 : DataW.trod enc Go.Proofs.Tryz.prog w base sp held n 29 ((cs.drop 34).take (Go.Proofs.Tryz.prog.cellsOf 29)) = some y2 := g2
  rw [show Go.Proofs.Tryz.prog.cellsOf 29 = 1 from by kernel_rfl] at g2
  obtain ⟨a2, e2, _, w2⟩ := DataW.trod_int Go.Proofs.Tryz.underlying29 g2
  obtain ⟨y3, g3⟩ := g 3 _ rfl
  replace g3 : DataW.trod enc Go.Proofs.Tryz.prog w base sp held n 3 ((cs.drop 35).take (Go.Proofs.Tryz.prog.cellsOf 3)) = some y3 := g3
  rw [show Go.Proofs.Tryz.prog.cellsOf 3 = 1 from by kernel_rfl] at g3
  obtain ⟨a3, e3, _, w3⟩ := DataW.trod_int Go.Proofs.Tryz.underlying3 g3
  obtain ⟨y4, g4⟩ := g 4 _ rfl
  replace g4 : DataW.trod enc Go.Proofs.Tryz.prog w base sp held n 30 ((cs.drop 36).take (Go.Proofs.Tryz.prog.cellsOf 30)) = some y4 := g4
  rw [show Go.Proofs.Tryz.prog.cellsOf 30 = 1 from by kernel_rfl] at g4
  obtain ⟨a4, e4, l4, m4, w4⟩ := open_ls (cs := S_api_Piece.cs) (w' := 5) Go.Proofs.Tryz.underlying30 (by kernel_rfl) (fun hq => open_S_api_Piece hq) g4
  obtain ⟨y5, g5⟩ := g 5 _ rfl
  replace g5 : DataW.trod enc Go.Proofs.Tryz.prog w base sp held n 27 ((cs.drop 37).take (Go.Proofs.Tryz.prog.cellsOf 27)) = some y5 := g5
  rw [show Go.Proofs.Tryz.prog.cellsOf 27 = 1 from by kernel_rfl] at g5
  obtain ⟨a5, e5, _, w5⟩ := DataW.trod_int Go.Proofs.Tryz.underlying27 g5
  have r0 : cs.drop 0 = _ ++ cs.drop 1 := cat_part e0
  have r1 : cs.drop 1 = _ ++ cs.drop 34 := cat_part e1
  have r2 : cs.drop 34 = _ ++ cs.drop 35 := cat_part e2
  have r3 : cs.drop 35 = _ ++ cs.drop 36 := cat_part e3
  have r4 : cs.drop 36 = _ ++ cs.drop 37 := cat_part e4
  have r5 : cs.drop 37 = _ ++ cs.drop 38 := cat_part e5
  have rn : cs.drop 38 = [] := cat_end (hl.trans (by kernel_rfl))
  exact ⟨⟨a0, a1, a2, a3, a4, a5⟩, (List.drop_zero).symm.trans (r0.trans (by rw [r1, r2, r3, r4, r5, rn]; rfl)), w0, w1, w2, w3, ⟨l4, m4, w4⟩, w5⟩
end
end Go.Q.Yc

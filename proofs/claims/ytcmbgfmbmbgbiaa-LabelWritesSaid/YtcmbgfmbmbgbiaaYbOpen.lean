/- A part of the proof of statements of this seat: lemmas, no statement of their own. -/
import Derived.Test.YtcmbgfmbmbgbiaaYbTab
import Derived.Test.YtcmbgfmbmbgbiaaQOpen
set_option linter.unusedVariables false
set_option maxRecDepth 100000
set_option maxHeartbeats 1000000
namespace Go.Q.Yb
open Go.ChangeShapes Go.WideShapes
section
variable {H : Type} {enc : TypeId × Value → H} {w : World} {base : Nat} {sp : Nat → Bool} {held : Bool}
def Ok_S_api_Id (h : Heap) (v : S_api_Id) : Prop := ((Lit.int .u64 v.f_N).wf = true) ∧ ((Lit.int .u16 v.f_Node).wf = true)

theorem open_S_api_Id {fuel : Nat} {cs : List Value} {x : DataW H × List MemPlace} (h : DataW.trod enc Go.Proofs.Try.prog w base sp held fuel 48 cs = some x) : ∃ v : S_api_Id, cs = S_api_Id.cs v ∧ Ok_S_api_Id w.heap v := by
  obtain ⟨n, hl, g⟩ := open_fs Go.Proofs.Try.underlying48 h
  obtain ⟨y0, g0⟩ := g 0 _ rfl
  replace g0 : DataW.trod enc Go.Proofs.Try.prog w base sp held n 22 ((cs.drop 0).take (Go.Proofs.Try.prog.cellsOf 22)) = some y0 := g0
  rw [show Go.Proofs.Try.prog.cellsOf 22 = 1 from by kernel_rfl] at g0
  obtain ⟨a0, e0, _, w0⟩ := DataW.trod_int Go.Proofs.Try.underlying22 g0
  obtain ⟨y1, g1⟩ := g 1 _ rfl
  replace g1 : DataW.trod enc Go.Proofs.Try.prog w base sp held n 46 ((cs.drop 1).take (Go.Proofs.Try.prog.cellsOf 46)) = some y1 := g1
  rw [show Go.Proofs.Try.prog.cellsOf 46 = 1 from by kernel_rfl] at g1
  obtain ⟨a1, e1, _, w1⟩ := DataW.trod_int Go.Proofs.Try.underlying46 g1
  have r0 : cs.drop 0 = _ ++ cs.drop 1 := cat_part e0
  have r1 : cs.drop 1 = _ ++ cs.drop 2 := cat_part e1
  have rn : cs.drop 2 = [] := cat_end (hl.trans (by kernel_rfl))
  exact ⟨⟨a0, a1⟩, (List.drop_zero).symm.trans (r0.trans (by rw [r1, rn]; rfl)), w0, w1⟩

def Ok_S_api_Piece (h : Heap) (v : S_api_Piece) : Prop := (v.f_Series.size ≤ maxLen) ∧ ((Lit.int .i64 v.f_T).wf = true) ∧ ((Lit.int .i64 v.f_V).wf = true) ∧ (Ok_S_api_Id h v.f_Id)

theorem open_S_api_Piece {fuel : Nat} {cs : List Value} {x : DataW H × List MemPlace} (h : DataW.trod enc Go.Proofs.Try.prog w base sp held fuel 50 cs = some x) : ∃ v : S_api_Piece, cs = S_api_Piece.cs v ∧ Ok_S_api_Piece w.heap v := by
  obtain ⟨n, hl, g⟩ := open_fs Go.Proofs.Try.underlying50 h
  obtain ⟨y0, g0⟩ := g 0 _ rfl
  replace g0 : DataW.trod enc Go.Proofs.Try.prog w base sp held n 9 ((cs.drop 0).take (Go.Proofs.Try.prog.cellsOf 9)) = some y0 := g0
  rw [show Go.Proofs.Try.prog.cellsOf 9 = 1 from by kernel_rfl] at g0
  obtain ⟨a0, e0, _, w0⟩ := DataW.trod_string Go.Proofs.Try.underlying9 g0
  obtain ⟨y1, g1⟩ := g 1 _ rfl
  replace g1 : DataW.trod enc Go.Proofs.Try.prog w base sp held n 2 ((cs.drop 1).take (Go.Proofs.Try.prog.cellsOf 2)) = some y1 := g1
  rw [show Go.Proofs.Try.prog.cellsOf 2 = 1 from by kernel_rfl] at g1
  obtain ⟨a1, e1, _, w1⟩ := DataW.trod_int Go.Proofs.Try.underlying2 g1
  obtain ⟨y2, g2⟩ := g 2 _ rfl
  replace g2 : DataW.trod enc Go.Proofs.Try.prog w base sp held n 2 ((cs.drop 2).take (Go.Proofs.Try.prog.cellsOf 2)) = some y2 := g2
  rw [show Go.Proofs.Try.prog.cellsOf 2 = 1 from by kernel_rfl] at g2
  obtain ⟨a2, e2, _, w2⟩ := DataW.trod_int Go.Proofs.Try.underlying2 g2
  obtain ⟨y3, g3⟩ := g 3 _ rfl
  replace g3 : DataW.trod enc Go.Proofs.Try.prog w base sp held n 48 ((cs.drop 3).take (Go.Proofs.Try.prog.cellsOf 48)) = some y3 := g3
  rw [show Go.Proofs.Try.prog.cellsOf 48 = 2 from by kernel_rfl] at g3
  obtain ⟨a3, e3, w3⟩ := open_S_api_Id g3
  have r0 : cs.drop 0 = _ ++ cs.drop 1 := cat_part e0
  have r1 : cs.drop 1 = _ ++ cs.drop 2 := cat_part e1
  have r2 : cs.drop 2 = _ ++ cs.drop 3 := cat_part e2
  have r3 : cs.drop 3 = _ ++ cs.drop 5 := cat_part e3
  have rn : cs.drop 5 = [] := cat_end (hl.trans (by kernel_rfl))
  exact ⟨⟨a0, a1, a2, a3⟩, (List.drop_zero).symm.trans (r0.trans (by rw [r1, r2, r3, rn]; rfl)), w0, w1, w2, w3⟩

def Ok_S_api_Query (h : Heap) (v : S_api_Query) : Prop := (v.f_Select.size ≤ maxLen) ∧ ((Lit.int .i64 v.f_From).wf = true) ∧ ((Lit.int .i64 v.f_To).wf = true) ∧ ((Lit.int .i64 v.f_Agg).wf = true) ∧ ((Lit.int .i64 v.f_Step).wf = true)

theorem open_S_api_Query {fuel : Nat} {cs : List Value} {x : DataW H × List MemPlace} (h : DataW.trod enc Go.Proofs.Try.prog w base sp held fuel 26 cs = some x) : ∃ v : S_api_Query, cs = S_api_Query.cs v ∧ Ok_S_api_Query w.heap v := by
  obtain ⟨n, hl, g⟩ := open_fs Go.Proofs.Try.underlying26 h
  obtain ⟨y0, g0⟩ := g 0 _ rfl
  replace g0 : DataW.trod enc Go.Proofs.Try.prog w base sp held n 9 ((cs.drop 0).take (Go.Proofs.Try.prog.cellsOf 9)) = some y0 := g0
  rw [show Go.Proofs.Try.prog.cellsOf 9 = 1 from by kernel_rfl] at g0
  obtain ⟨a0, e0, _, w0⟩ := DataW.trod_string Go.Proofs.Try.underlying9 g0
  obtain ⟨y1, g1⟩ := g 1 _ rfl
  replace g1 : DataW.trod enc Go.Proofs.Try.prog w base sp held n 2 ((cs.drop 1).take (Go.Proofs.Try.prog.cellsOf 2)) = some y1 := g1
  rw [show Go.Proofs.Try.prog.cellsOf 2 = 1 from by kernel_rfl] at g1
  obtain ⟨a1, e1, _, w1⟩ := DataW.trod_int Go.Proofs.Try.underlying2 g1
  obtain ⟨y2, g2⟩ := g 2 _ rfl
  replace g2 : DataW.trod enc Go.Proofs.Try.prog w base sp held n 2 ((cs.drop 2).take (Go.Proofs.Try.prog.cellsOf 2)) = some y2 := g2
  rw [show Go.Proofs.Try.prog.cellsOf 2 = 1 from by kernel_rfl] at g2
  obtain ⟨a2, e2, _, w2⟩ := DataW.trod_int Go.Proofs.Try.underlying2 g2
  obtain ⟨y3, g3⟩ := g 3 _ rfl
  replace g3 : DataW.trod enc Go.Proofs.Try.prog w base sp held n 3 ((cs.drop 3).take (Go.Proofs.Try.prog.cellsOf 3)) = some y3 := g3
  rw [show Go.Proofs.Try.prog.cellsOf 3 = 1 from by kernel_rfl] at g3
  obtain ⟨a3, e3, _, w3⟩ := DataW.trod_int Go.Proofs.Try.underlying3 g3
  obtain ⟨y4, g4⟩ := g 4 _ rfl
  replace g4 : DataW.trod enc Go.Proofs.Try.prog w base sp held n 2 ((cs.drop 4).take (Go.Proofs.Try.prog.cellsOf 2)) = some y4 := g4
  rw [show Go.Proofs.Try.prog.cellsOf 2 = 1 from by kernel_rfl] at g4
  obtain ⟨a4, e4, _, w4⟩ := DataW.trod_int Go.Proofs.Try.underlying2 g4
  have r0 : cs.drop 0 = _ ++ cs.drop 1 := cat_part e0
  have r1 : cs.drop 1 = _ ++ cs.drop 2 := cat_part e1
  have r2 : cs.drop 2 = _ ++ cs.drop 3 := cat_part e2
  have r3 : cs.drop 3 = _ ++ cs.drop 4 := cat_part e3
  have r4 : cs.drop 4 = _ ++ cs.drop 5 := cat_part e4
  have rn : cs.drop 5 = [] := cat_end (hl.trans (by kernel_rfl))
  exact ⟨⟨a0, a1, a2, a3, a4⟩, (List.drop_zero).symm.trans (r0.trans (by rw [r1, r2, r3, r4, rn]; rfl)), w0, w1, w2, w3, w4⟩

def Ok_S_api_Command (h : Heap) (v : S_api_Command) : Prop := ((Lit.int .i64 v.f_Kind).wf = true) ∧ (v.f_Tenant.size ≤ maxLen) ∧ ((Lit.int .u32 v.f_Epoch).wf = true) ∧ (v.f_Nonce.length = 12 ∧ ∀ x ∈ v.f_Nonce, (Lit.int .u8 x).wf = true) ∧ (v.f_Wrapped.len ≤ v.f_Wrapped.cap ∧ v.f_Wrapped.cap ≤ maxLen ∧ ∃ zs, SlI .u8 h v.f_Wrapped zs) ∧ ((Lit.int .i64 v.f_Horizon).wf = true)

theorem open_S_api_Command {fuel : Nat} {cs : List Value} {x : DataW H × List MemPlace} (h : DataW.trod enc Go.Proofs.Try.prog w base sp held fuel 32 cs = some x) : ∃ v : S_api_Command, cs = S_api_Command.cs v ∧ Ok_S_api_Command w.heap v := by
  obtain ⟨n, hl, g⟩ := open_fs Go.Proofs.Try.underlying32 h
  obtain ⟨y0, g0⟩ := g 0 _ rfl
  replace g0 : DataW.trod enc Go.Proofs.Try.prog w base sp held n 3 ((cs.drop 0).take (Go.Proofs.Try.prog.cellsOf 3)) = some y0 := g0
  rw [show Go.Proofs.Try.prog.cellsOf 3 = 1 from by kernel_rfl] at g0
  obtain ⟨a0, e0, _, w0⟩ := DataW.trod_int Go.Proofs.Try.underlying3 g0
  obtain ⟨y1, g1⟩ := g 1 _ rfl
  replace g1 : DataW.trod enc Go.Proofs.Try.prog w base sp held n 9 ((cs.drop 1).take (Go.Proofs.Try.prog.cellsOf 9)) = some y1 := g1
  rw [show Go.Proofs.Try.prog.cellsOf 9 = 1 from by kernel_rfl] at g1
  obtain ⟨a1, e1, _, w1⟩ := DataW.trod_string Go.Proofs.Try.underlying9 g1
  obtain ⟨y2, g2⟩ := g 2 _ rfl
  replace g2 : DataW.trod enc Go.Proofs.Try.prog w base sp held n 27 ((cs.drop 2).take (Go.Proofs.Try.prog.cellsOf 27)) = some y2 := g2
  rw [show Go.Proofs.Try.prog.cellsOf 27 = 1 from by kernel_rfl] at g2
  obtain ⟨a2, e2, _, w2⟩ := DataW.trod_int Go.Proofs.Try.underlying27 g2
  obtain ⟨y3, g3⟩ := g 3 _ rfl
  replace g3 : DataW.trod enc Go.Proofs.Try.prog w base sp held n 29 ((cs.drop 3).take (Go.Proofs.Try.prog.cellsOf 29)) = some y3 := g3
  rw [show Go.Proofs.Try.prog.cellsOf 29 = 12 from by kernel_rfl] at g3
  obtain ⟨a3, e3, l3, w3⟩ := open_arr Go.Proofs.Try.underlying29 Go.Proofs.Try.underlying5 (by kernel_rfl) (by kernel_rfl) g3
  obtain ⟨y4, g4⟩ := g 4 _ rfl
  replace g4 : DataW.trod enc Go.Proofs.Try.prog w base sp held n 30 ((cs.drop 15).take (Go.Proofs.Try.prog.cellsOf 30)) = some y4 := g4
  rw [show Go.Proofs.Try.prog.cellsOf 30 = 1 from by kernel_rfl] at g4
  obtain ⟨a4, e4, l4, m4, w4⟩ := open_si Go.Proofs.Try.underlying30 Go.Proofs.Try.underlying5 (by kernel_rfl) g4
  obtain ⟨y5, g5⟩ := g 5 _ rfl
  replace g5 : DataW.trod enc Go.Proofs.Try.prog w base sp held n 2 ((cs.drop 16).take (Go.Proofs.Try.prog.cellsOf 2)) = some y5 := g5
  rw [show Go.Proofs.Try.prog.cellsOf 2 = 1 from by kernel_rfl] at g5
  obtain ⟨a5, e5, _, w5⟩ := DataW.trod_int Go.Proofs.Try.underlying2 g5
  have r0 : cs.drop 0 = _ ++ cs.drop 1 := cat_part e0
  have r1 : cs.drop 1 = _ ++ cs.drop 2 := cat_part e1
  have r2 : cs.drop 2 = _ ++ cs.drop 3 := cat_part e2
  have r3 : cs.drop 3 = _ ++ cs.drop 15 := cat_part e3
  have r4 : cs.drop 15 = _ ++ cs.drop 16 := cat_part e4
  have r5 : cs.drop 16 = _ ++ cs.drop 17 := cat_part e5
  have rn : cs.drop 17 = [] := cat_end (hl.trans (by kernel_rfl))
  exact ⟨⟨a0, a1, a2, a3, a4, a5⟩, (List.drop_zero).symm.trans (r0.trans (by rw [r1, r2, r3, r4, r5, rn]; rfl)), w0, w1, w2, ⟨l3, w3⟩, ⟨l4, m4, w4⟩, w5⟩

def Ok_S_api_Share (h : Heap) (v : S_api_Share) : Prop := ((Lit.int .u8 v.f_X).wf = true) ∧ (v.f_Y.length = 32 ∧ ∀ x ∈ v.f_Y, (Lit.int .u8 x).wf = true)

theorem open_S_api_Share {fuel : Nat} {cs : List Value} {x : DataW H × List MemPlace} (h : DataW.trod enc Go.Proofs.Try.prog w base sp held fuel 37 cs = some x) : ∃ v : S_api_Share, cs = S_api_Share.cs v ∧ Ok_S_api_Share w.heap v := by
  obtain ⟨n, hl, g⟩ := open_fs Go.Proofs.Try.underlying37 h
  obtain ⟨y0, g0⟩ := g 0 _ rfl
  replace g0 : DataW.trod enc Go.Proofs.Try.prog w base sp held n 5 ((cs.drop 0).take (Go.Proofs.Try.prog.cellsOf 5)) = some y0 := g0
  rw [show Go.Proofs.Try.prog.cellsOf 5 = 1 from by kernel_rfl] at g0
  obtain ⟨a0, e0, _, w0⟩ := DataW.trod_int Go.Proofs.Try.underlying5 g0
  obtain ⟨y1, g1⟩ := g 1 _ rfl
  replace g1 : DataW.trod enc Go.Proofs.Try.prog w base sp held n 35 ((cs.drop 1).take (Go.Proofs.Try.prog.cellsOf 35)) = some y1 := g1
  rw [show Go.Proofs.Try.prog.cellsOf 35 = 32 from by kernel_rfl] at g1
  obtain ⟨a1, e1, l1, w1⟩ := open_arr Go.Proofs.Try.underlying35 Go.Proofs.Try.underlying5 (by kernel_rfl) (by kernel_rfl) g1
  have r0 : cs.drop 0 = _ ++ cs.drop 1 := cat_part e0
  have r1 : cs.drop 1 = _ ++ cs.drop 33 := cat_part e1
  have rn : cs.drop 33 = [] := cat_end (hl.trans (by kernel_rfl))
  exact ⟨⟨a0, a1⟩, (List.drop_zero).symm.trans (r0.trans (by rw [r1, rn]; rfl)), w0, ⟨l1, w1⟩⟩

def Ok_S_api_Entry (h : Heap) (v : S_api_Entry) : Prop := ((Lit.int .u64 v.f_Term).wf = true) ∧ (v.f_Cmd.len ≤ v.f_Cmd.cap ∧ v.f_Cmd.cap ≤ maxLen ∧ ∃ zs, SlI .u8 h v.f_Cmd zs)

theorem open_S_api_Entry {fuel : Nat} {cs : List Value} {x : DataW H × List MemPlace} (h : DataW.trod enc Go.Proofs.Try.prog w base sp held fuel 254 cs = some x) : ∃ v : S_api_Entry, cs = S_api_Entry.cs v ∧ Ok_S_api_Entry w.heap v := by
  obtain ⟨n, hl, g⟩ := open_fs Go.Proofs.Try.underlying254 h
  obtain ⟨y0, g0⟩ := g 0 _ rfl
  replace g0 : DataW.trod enc Go.Proofs.Try.prog w base sp held n 22 ((cs.drop 0).take (Go.Proofs.Try.prog.cellsOf 22)) = some y0 := g0
  rw [show Go.Proofs.Try.prog.cellsOf 22 = 1 from by kernel_rfl] at g0
  obtain ⟨a0, e0, _, w0⟩ := DataW.trod_int Go.Proofs.Try.underlying22 g0
  obtain ⟨y1, g1⟩ := g 1 _ rfl
  replace g1 : DataW.trod enc Go.Proofs.Try.prog w base sp held n 30 ((cs.drop 1).take (Go.Proofs.Try.prog.cellsOf 30)) = some y1 := g1
  rw [show Go.Proofs.Try.prog.cellsOf 30 = 1 from by kernel_rfl] at g1
  obtain ⟨a1, e1, l1, m1, w1⟩ := open_si Go.Proofs.Try.underlying30 Go.Proofs.Try.underlying5 (by kernel_rfl) g1
  have r0 : cs.drop 0 = _ ++ cs.drop 1 := cat_part e0
  have r1 : cs.drop 1 = _ ++ cs.drop 2 := cat_part e1
  have rn : cs.drop 2 = [] := cat_end (hl.trans (by kernel_rfl))
  exact ⟨⟨a0, a1⟩, (List.drop_zero).symm.trans (r0.trans (by rw [r1, rn]; rfl)), w0, ⟨l1, m1, w1⟩⟩

def Ok_S_api_Msg (h : Heap) (v : S_api_Msg) : Prop := ((Lit.int .i64 v.f_Kind).wf = true) ∧ ((Lit.int .u64 v.f_Term).wf = true) ∧ ((Lit.int .u64 v.f_Index).wf = true) ∧ ((Lit.int .u64 v.f_LogTerm).wf = true) ∧ ((Lit.int .u64 v.f_Commit).wf = true) ∧ (True) ∧ (v.f_Entries.len ≤ v.f_Entries.cap ∧ v.f_Entries.cap ≤ maxLen ∧ ∃ ys : List S_api_Entry, LsAt S_api_Entry.cs 2 h v.f_Entries ys ∧ ∀ y ∈ ys, Ok_S_api_Entry h y) ∧ (v.f_Snap.len ≤ v.f_Snap.cap ∧ v.f_Snap.cap ≤ maxLen ∧ ∃ zs, SlI .u8 h v.f_Snap zs)

theorem open_S_api_Msg {fuel : Nat} {cs : List Value} {x : DataW H × List MemPlace} (h : DataW.trod enc Go.Proofs.Try.prog w base sp held fuel 40 cs = some x) : ∃ v : S_api_Msg, cs = S_api_Msg.cs v ∧ Ok_S_api_Msg w.heap v := by
  obtain ⟨n, hl, g⟩ := open_fs Go.Proofs.Try.underlying40 h
  obtain ⟨y0, g0⟩ := g 0 _ rfl
  replace g0 : DataW.trod enc Go.Proofs.Try.prog w base sp held n 3 ((cs.drop 0).take (Go.Proofs.Try.prog.cellsOf 3)) = some y0 := g0
  rw [show Go.Proofs.Try.prog.cellsOf 3 = 1 from by kernel_rfl] at g0
  obtain ⟨a0, e0, _, w0⟩ := DataW.trod_int Go.Proofs.Try.underlying3 g0
  obtain ⟨y1, g1⟩ := g 1 _ rfl
  replace g1 : DataW.trod enc Go.Proofs.Try.prog w base sp held n 22 ((cs.drop 1).take (Go.Proofs.Try.prog.cellsOf 22)) = some y1 := g1
  rw [show Go.Proofs.Try.prog.cellsOf 22 = 1 from by kernel_rfl] at g1
  obtain ⟨a1, e1, _, w1⟩ := DataW.trod_int Go.Proofs.Try.underlying22 g1
  obtain ⟨y2, g2⟩ := g 2 _ rfl
  replace g2 : DataW.trod enc Go.Proofs.Try.prog w base sp held n 22 ((cs.drop 2).take (Go.Proofs.Try.prog.cellsOf 22)) = some y2 := g2
  rw [show Go.Proofs.Try.prog.cellsOf 22 = 1 from by kernel_rfl] at g2
  obtain ⟨a2, e2, _, w2⟩ := DataW.trod_int Go.Proofs.Try.underlying22 g2
  obtain ⟨y3, g3⟩ := g 3 _ rfl
  replace g3 : DataW.trod enc Go.Proofs.Try.prog w base sp held n 22 ((cs.drop 3).take (Go.Proofs.Try.prog.cellsOf 22)) = some y3 := g3
  rw [show Go.Proofs.Try.prog.cellsOf 22 = 1 from by kernel_rfl] at g3
  obtain ⟨a3, e3, _, w3⟩ := DataW.trod_int Go.Proofs.Try.underlying22 g3
  obtain ⟨y4, g4⟩ := g 4 _ rfl
  replace g4 : DataW.trod enc Go.Proofs.Try.prog w base sp held n 22 ((cs.drop 4).take (Go.Proofs.Try.prog.cellsOf 22)) = some y4 := g4
  rw [show Go.Proofs.Try.prog.cellsOf 22 = 1 from by kernel_rfl] at g4
  obtain ⟨a4, e4, _, w4⟩ := DataW.trod_int Go.Proofs.Try.underlying22 g4
  obtain ⟨y5, g5⟩ := g 5 _ rfl
  replace g5 : DataW.trod enc Go.Proofs.Try.prog w base sp held n 4 ((cs.drop 5).take (Go.Proofs.Try.prog.cellsOf 4)) = some y5 := g5
  rw [show Go.Proofs.Try.prog.cellsOf 4 = 1 from by kernel_rfl] at g5
  obtain ⟨a5, e5, _⟩ := DataW.trod_bool Go.Proofs.Try.underlying4 g5
  obtain ⟨y6, g6⟩ := g 6 _ rfl
  replace g6 : DataW.trod enc Go.Proofs.Try.prog w base sp held n 38 ((cs.drop 6).take (Go.Proofs.Try.prog.cellsOf 38)) = some y6 := g6
  rw [show Go.Proofs.Try.prog.cellsOf 38 = 1 from by kernel_rfl] at g6
  obtain ⟨a6, e6, l6, m6, w6⟩ := open_ls (cs := S_api_Entry.cs) (w' := 2) Go.Proofs.Try.underlying38 (by kernel_rfl) (fun hq => open_S_api_Entry hq) g6
  obtain ⟨y7, g7⟩ := g 7 _ rfl
  replace g7 : DataW.trod enc Go.Proofs.Try.prog w base sp held n 30 ((cs.drop 7).take (Go.Proofs.Try.prog.cellsOf 30)) = some y7 := g7
  rw [show Go.Proofs.Try.prog.cellsOf 30 = 1 from by kernel_rfl] at g7
  obtain ⟨a7, e7, l7, m7, w7⟩ := open_si Go.Proofs.Try.underlying30 Go.Proofs.Try.underlying5 (by kernel_rfl) g7
  have r0 : cs.drop 0 = _ ++ cs.drop 1 := cat_part e0
  have r1 : cs.drop 1 = _ ++ cs.drop 2 := cat_part e1
  have r2 : cs.drop 2 = _ ++ cs.drop 3 := cat_part e2
  have r3 : cs.drop 3 = _ ++ cs.drop 4 := cat_part e3
  have r4 : cs.drop 4 = _ ++ cs.drop 5 := cat_part e4
  have r5 : cs.drop 5 = _ ++ cs.drop 6 := cat_part e5
  have r6 : cs.drop 6 = _ ++ cs.drop 7 := cat_part e6
  have r7 : cs.drop 7 = _ ++ cs.drop 8 := cat_part e7
  have rn : cs.drop 8 = [] := cat_end (hl.trans (by kernel_rfl))
  exact ⟨⟨a0, a1, a2, a3, a4, a5, a6, a7⟩, (List.drop_zero).symm.trans (r0.trans (by rw [r1, r2, r3, r4, r5, r6, r7, rn]; rfl)), w0, w1, w2, w3, w4, trivial, ⟨l6, m6, w6⟩, ⟨l7, m7, w7⟩⟩

def Ok_S_api_Note (h : Heap) (v : S_api_Note) : Prop := ((Lit.int .i64 v.f_Kind).wf = true) ∧ ((Lit.int .u64 v.f_Op).wf = true) ∧ ((Lit.int .u64 v.f_Boot).wf = true) ∧ ((Lit.int .i64 v.f_E).wf = true) ∧ (v.f_Tenant.size ≤ maxLen) ∧ (v.f_Pieces.len ≤ v.f_Pieces.cap ∧ v.f_Pieces.cap ≤ maxLen ∧ ∃ ys : List S_api_Piece, LsAt S_api_Piece.cs 5 h v.f_Pieces ys ∧ ∀ y ∈ ys, Ok_S_api_Piece h y) ∧ (Ok_S_api_Query h v.f_Q) ∧ (Ok_S_api_Command h v.f_Cmd) ∧ ((Lit.int .u64 v.f_Index).wf = true) ∧ (v.f_Ids.len ≤ v.f_Ids.cap ∧ v.f_Ids.cap ≤ maxLen ∧ ∃ ys : List S_api_Id, LsAt S_api_Id.cs 2 h v.f_Ids ys ∧ ∀ y ∈ ys, Ok_S_api_Id h y) ∧ (Ok_S_api_Share h v.f_Share) ∧ (Ok_S_api_Msg h v.f_M)

theorem open_S_api_Note {fuel : Nat} {cs : List Value} {x : DataW H × List MemPlace} (h : DataW.trod enc Go.Proofs.Try.prog w base sp held fuel 42 cs = some x) : ∃ v : S_api_Note, cs = S_api_Note.cs v ∧ Ok_S_api_Note w.heap v := by
  obtain ⟨n, hl, g⟩ := open_fs Go.Proofs.Try.underlying42 h
  obtain ⟨y0, g0⟩ := g 0 _ rfl
  replace g0 : DataW.trod enc Go.Proofs.Try.prog w base sp held n 3 ((cs.drop 0).take (Go.Proofs.Try.prog.cellsOf 3)) = some y0 := g0
  rw [show Go.Proofs.Try.prog.cellsOf 3 = 1 from by kernel_rfl] at g0
  obtain ⟨a0, e0, _, w0⟩ := DataW.trod_int Go.Proofs.Try.underlying3 g0
  obtain ⟨y1, g1⟩ := g 1 _ rfl
  replace g1 : DataW.trod enc Go.Proofs.Try.prog w base sp held n 22 ((cs.drop 1).take (Go.Proofs.Try.prog.cellsOf 22)) = some y1 := g1
  rw [show Go.Proofs.Try.prog.cellsOf 22 = 1 from by kernel_rfl] at g1
  obtain ⟨a1, e1, _, w1⟩ := DataW.trod_int Go.Proofs.Try.underlying22 g1
  obtain ⟨y2, g2⟩ := g 2 _ rfl
  replace g2 : DataW.trod enc Go.Proofs.Try.prog w base sp held n 22 ((cs.drop 2).take (Go.Proofs.Try.prog.cellsOf 22)) = some y2 := g2
  rw [show Go.Proofs.Try.prog.cellsOf 22 = 1 from by kernel_rfl] at g2
  obtain ⟨a2, e2, _, w2⟩ := DataW.trod_int Go.Proofs.Try.underlying22 g2
  obtain ⟨y3, g3⟩ := g 3 _ rfl
  replace g3 : DataW.trod enc Go.Proofs.Try.prog w base sp held n 23 ((cs.drop 3).take (Go.Proofs.Try.prog.cellsOf 23)) = some y3 := g3
  rw [show Go.Proofs.Try.prog.cellsOf 23 = 1 from by kernel_rfl] at g3
  obtain ⟨a3, e3, _, w3⟩ := DataW.trod_int Go.Proofs.Try.underlying23 g3
  obtain ⟨y4, g4⟩ := g 4 _ rfl
  replace g4 : DataW.trod enc Go.Proofs.Try.prog w base sp held n 9 ((cs.drop 4).take (Go.Proofs.Try.prog.cellsOf 9)) = some y4 := g4
  rw [show Go.Proofs.Try.prog.cellsOf 9 = 1 from by kernel_rfl] at g4
  obtain ⟨a4, e4, _, w4⟩ := DataW.trod_string Go.Proofs.Try.underlying9 g4
  obtain ⟨y5, g5⟩ := g 5 _ rfl
  replace g5 : DataW.trod enc Go.Proofs.Try.prog w base sp held n 24 ((cs.drop 5).take (Go.Proofs.Try.prog.cellsOf 24)) = some y5 := g5
  rw [show Go.Proofs.Try.prog.cellsOf 24 = 1 from by kernel_rfl] at g5
  obtain ⟨a5, e5, l5, m5, w5⟩ := open_ls (cs := S_api_Piece.cs) (w' := 5) Go.Proofs.Try.underlying24 (by kernel_rfl) (fun hq => open_S_api_Piece hq) g5
  obtain ⟨y6, g6⟩ := g 6 _ rfl
  replace g6 : DataW.trod enc Go.Proofs.Try.prog w base sp held n 26 ((cs.drop 6).take (Go.Proofs.Try.prog.cellsOf 26)) = some y6 := g6
  rw [show Go.Proofs.Try.prog.cellsOf 26 = 5 from by kernel_rfl] at g6
  obtain ⟨a6, e6, w6⟩ := open_S_api_Query g6
  obtain ⟨y7, g7⟩ := g 7 _ rfl
  replace g7 : DataW.trod enc Go.Proofs.Try.prog w base sp held n 32 ((cs.drop 11).take (Go.Proofs.Try.prog.cellsOf 32)) = some y7 := g7
  rw [show Go.Proofs.Try.prog.cellsOf 32 = 17 from by kernel_rfl] at g7
  obtain ⟨a7, e7, w7⟩ := open_S_api_Command g7
  obtain ⟨y8, g8⟩ := g 8 _ rfl
  replace g8 : DataW.trod enc Go.Proofs.Try.prog w base sp held n 22 ((cs.drop 28).take (Go.Proofs.Try.prog.cellsOf 22)) = some y8 := g8
  rw [show Go.Proofs.Try.prog.cellsOf 22 = 1 from by kernel_rfl] at g8
  obtain ⟨a8, e8, _, w8⟩ := DataW.trod_int Go.Proofs.Try.underlying22 g8
  obtain ⟨y9, g9⟩ := g 9 _ rfl
  replace g9 : DataW.trod enc Go.Proofs.Try.prog w base sp held n 33 ((cs.drop 29).take (Go.Proofs.Try.prog.cellsOf 33)) = some y9 := g9
  rw [show Go.Proofs.Try.prog.cellsOf 33 = 1 from by kernel_rfl] at g9
  obtain ⟨a9, e9, l9, m9, w9⟩ := open_ls (cs := S_api_Id.cs) (w' := 2) Go.Proofs.Try.underlying33 (by kernel_rfl) (fun hq => open_S_api_Id hq) g9
  obtain ⟨y10, g10⟩ := g 10 _ rfl
  replace g10 : DataW.trod enc Go.Proofs.Try.prog w base sp held n 37 ((cs.drop 30).take (Go.Proofs.Try.prog.cellsOf 37)) = some y10 := g10
  rw [show Go.Proofs.Try.prog.cellsOf 37 = 33 from by kernel_rfl] at g10
  obtain ⟨a10, e10, w10⟩ := open_S_api_Share g10
  obtain ⟨y11, g11⟩ := g 11 _ rfl
  replace g11 : DataW.trod enc Go.Proofs.Try.prog w base sp held n 40 ((cs.drop 63).take (Go.Proofs.Try.prog.cellsOf 40)) = some y11 := g11
  rw [show Go.Proofs.Try.prog.cellsOf 40 = 8 from by kernel_rfl] at g11
  obtain ⟨a11, e11, w11⟩ := open_S_api_Msg g11
  have r0 : cs.drop 0 = _ ++ cs.drop 1 := cat_part e0
  have r1 : cs.drop 1 = _ ++ cs.drop 2 := cat_part e1
  have r2 : cs.drop 2 = _ ++ cs.drop 3 := cat_part e2
  have r3 : cs.drop 3 = _ ++ cs.drop 4 := cat_part e3
  have r4 : cs.drop 4 = _ ++ cs.drop 5 := cat_part e4
  have r5 : cs.drop 5 = _ ++ cs.drop 6 := cat_part e5
  have r6 : cs.drop 6 = _ ++ cs.drop 11 := cat_part e6
  have r7 : cs.drop 11 = _ ++ cs.drop 28 := cat_part e7
  have r8 : cs.drop 28 = _ ++ cs.drop 29 := cat_part e8
  have r9 : cs.drop 29 = _ ++ cs.drop 30 := cat_part e9
  have r10 : cs.drop 30 = _ ++ cs.drop 63 := cat_part e10
  have r11 : cs.drop 63 = _ ++ cs.drop 71 := cat_part e11
  have rn : cs.drop 71 = [] := cat_end (hl.trans (by kernel_rfl))
  exact ⟨⟨a0, a1, a2, a3, a4, a5, a6, a7, a8, a9, a10, a11⟩, (List.drop_zero).symm.trans (r0.trans (by rw [r1, r2, r3, r4, r5, r6, r7, r8, r9, r10, r11, rn]; rfl)), w0, w1, w2, w3, w4, ⟨l5, m5, w5⟩, w6, w7, w8, ⟨l9, m9, w9⟩, w10, w11⟩
end
end Go.Q.Yb

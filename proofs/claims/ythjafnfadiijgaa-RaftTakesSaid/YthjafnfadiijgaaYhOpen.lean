/- A part of the proof of statements of this seat: lemmas, no statement of their own. -/
import Derived.Test.YthjafnfadiijgaaYhTab
import Derived.Test.YthjafnfadiijgaaQOpen
set_option linter.unusedVariables false
set_option maxRecDepth 100000
set_option maxHeartbeats 1000000
namespace Go.Q.Yh
open Go.ChangeShapes Go.WideShapes
section
variable {H : Type} {enc : TypeId × Value → H} {w : World} {base : Nat} {sp : Nat → Bool} {held : Bool}
def Ok_S_api_Entry (h : Heap) (v : S_api_Entry) : Prop := ((Lit.int .u64 v.f_Term).wf = true) ∧ (v.f_Cmd.len ≤ v.f_Cmd.cap ∧ v.f_Cmd.cap ≤ maxLen ∧ ∃ zs, SlI .u8 h v.f_Cmd zs)

theorem open_S_api_Entry {fuel : Nat} {cs : List Value} {x : DataW H × List MemPlace} (h : DataW.trod enc Go.Proofs.Try.prog w base sp held fuel 65 cs = some x) : ∃ v : S_api_Entry, cs = S_api_Entry.cs v ∧ Ok_S_api_Entry w.heap v := by
  obtain ⟨n, hl, g⟩ := open_fs Go.Proofs.Try.underlying65 h
  obtain ⟨y0, g0⟩ := g 0 _ rfl
  replace g0 : DataW.trod enc Go.Proofs.Try.prog w base sp held n 22 ((cs.drop 0).take (Go.Proofs.Try.prog.cellsOf 22)) = some y0 := g0
  rw [show Go.Proofs.Try.prog.cellsOf 22 = 1 from by kernel_rfl] at g0
  obtain ⟨a0, e0, _, w0⟩ := DataW.trod_int Go.Proofs.Try.underlying22 g0
  obtain ⟨y1, g1⟩ := g 1 _ rfl
  replace g1 : DataW.trod enc Go.Proofs.Try.prog w base sp held n 24 ((cs.drop 1).take (Go.Proofs.Try.prog.cellsOf 24)) = some y1 := g1
  rw [show Go.Proofs.Try.prog.cellsOf 24 = 1 from by kernel_rfl] at g1
  obtain ⟨a1, e1, l1, m1, w1⟩ := open_si Go.Proofs.Try.underlying24 Go.Proofs.Try.underlying5 (by kernel_rfl) g1
  have r0 : cs.drop 0 = _ ++ cs.drop 1 := cat_part e0
  have r1 : cs.drop 1 = _ ++ cs.drop 2 := cat_part e1
  have rn : cs.drop 2 = [] := cat_end (hl.trans (by kernel_rfl))
  exact ⟨⟨a0, a1⟩, (List.drop_zero).symm.trans (r0.trans (by rw [r1, rn]; rfl)), w0, ⟨l1, m1, w1⟩⟩

def Ok_S_api_Msg (h : Heap) (v : S_api_Msg) : Prop := ((Lit.int .i64 v.f_Kind).wf = true) ∧ ((Lit.int .u64 v.f_Term).wf = true) ∧ ((Lit.int .u64 v.f_Index).wf = true) ∧ ((Lit.int .u64 v.f_LogTerm).wf = true) ∧ ((Lit.int .u64 v.f_Commit).wf = true) ∧ (True) ∧ (v.f_Entries.len ≤ v.f_Entries.cap ∧ v.f_Entries.cap ≤ maxLen ∧ ∃ ys : List S_api_Entry, LsAt S_api_Entry.cs 2 h v.f_Entries ys ∧ ∀ y ∈ ys, Ok_S_api_Entry h y) ∧ (v.f_Snap.len ≤ v.f_Snap.cap ∧ v.f_Snap.cap ≤ maxLen ∧ ∃ zs, SlI .u8 h v.f_Snap zs)

theorem open_S_api_Msg {fuel : Nat} {cs : List Value} {x : DataW H × List MemPlace} (h : DataW.trod enc Go.Proofs.Try.prog w base sp held fuel 26 cs = some x) : ∃ v : S_api_Msg, cs = S_api_Msg.cs v ∧ Ok_S_api_Msg w.heap v := by
  obtain ⟨n, hl, g⟩ := open_fs Go.Proofs.Try.underlying26 h
  obtain ⟨y0, g0⟩ := g 0 _ rfl
  replace g0 : DataW.trod enc Go.Proofs.Try.prog w base sp held n 3 ((cs.drop 0).take (Go.Proofs.Try.prog.cellsOf 3)) = some y0 := g0
  rw [show Go.Proofs.Try.prog.cellsOf 3 = 1 from by kernel_rfl] at g0
  obtain ⟨a0, e0, _, w0⟩ := DataW.trod_int Go.Proofs.Try.underlying3 g0
  obtain ⟨y1, g1⟩ := g 1 _ rfl
  replace g1 : DataW.trod enc Go.Proofs.Try.prog w base sp held n 22 ((cs.drop 1).take (Go.Proofs.Try.prog.cellsOf 22)) = some y1 := g1
  rw [show Go.Proofs.Try.prog.cellsOf 22 = 1 from by kernel_rfl] at g1
  obtain ⟨a1, e1, _, w1⟩ := DataW.trod_int Go.Proofs.Try.underlying22 g1
  obtain ⟨y2, g2⟩ := g 2 _ rfl
  replace g2 : DataW.trod enc Go.Proofs.Try.prog w base sp held n 22 ((cs.drop 2).take (Go.Proofs.Try.prog.cellsOf 22)) = some y2 := g2
  rw [show Go.Proofs.Try.prog.cellsOf 22 = 1 from by kernel_rfl] at g2
  obtain ⟨a2, e2, _, w2⟩ := DataW.trod_int Go.Proofs.Try.underlying22 g2
  obtain ⟨y3, g3⟩ := g 3 _ rfl
  replace g3 : DataW.trod enc Go.Proofs.Try.prog w base sp held n 22 ((cs.drop 3).take (Go.Proofs.Try.prog.cellsOf 22)) = some y3 := g3
  rw [show Go.Proofs.Try.prog.cellsOf 22 = 1 from by kernel_rfl] at g3
  obtain ⟨a3, e3, _, w3⟩ := DataW.trod_int Go.Proofs.Try.underlying22 g3
  obtain ⟨y4, g4⟩ := g 4 _ rfl
  replace g4 : DataW.trod enc Go.Proofs.Try.prog w base sp held n 22 ((cs.drop 4).take (Go.Proofs.Try.prog.cellsOf 22)) = some y4 := g4
  rw [show Go.Proofs.Try.prog.cellsOf 22 = 1 from by kernel_rfl] at g4
  obtain ⟨a4, e4, _, w4⟩ := DataW.trod_int Go.Proofs.Try.underlying22 g4
  obtain ⟨y5, g5⟩ := g 5 _ rfl
  replace g5 : DataW.trod enc Go.Proofs.Try.prog w base sp held n 4 ((cs.drop 5).take (Go.Proofs.Try.prog.cellsOf 4)) = some y5 := g5
  rw [show Go.Proofs.Try.prog.cellsOf 4 = 1 from by kernel_rfl] at g5
  obtain ⟨a5, e5, _⟩ := DataW.trod_bool Go.Proofs.Try.underlying4 g5
  obtain ⟨y6, g6⟩ := g 6 _ rfl
  replace g6 : DataW.trod enc Go.Proofs.Try.prog w base sp held n 23 ((cs.drop 6).take (Go.Proofs.Try.prog.cellsOf 23)) = some y6 := g6
  rw [show Go.Proofs.Try.prog.cellsOf 23 = 1 from by kernel_rfl] at g6
  obtain ⟨a6, e6, l6, m6, w6⟩ := open_ls (cs := S_api_Entry.cs) (w' := 2) Go.Proofs.Try.underlying23 (by kernel_rfl) (fun hq => open_S_api_Entry hq) g6
  obtain ⟨y7, g7⟩ := g 7 _ rfl
  replace g7 : DataW.trod enc Go.Proofs.Try.prog w base sp held n 24 ((cs.drop 7).take (Go.Proofs.Try.prog.cellsOf 24)) = some y7 := g7
  rw [show Go.Proofs.Try.prog.cellsOf 24 = 1 from by kernel_rfl] at g7
  obtain ⟨a7, e7, l7, m7, w7⟩ := open_si Go.Proofs.Try.underlying24 Go.Proofs.Try.underlying5 (by kernel_rfl) g7
  have r0 : cs.drop 0 = _ ++ cs.drop 1 := cat_part e0
  have r1 : cs.drop 1 = _ ++ cs.drop 2 := cat_part e1
  have r2 : cs.drop 2 = _ ++ cs.drop 3 := cat_part e2
  have r3 : cs.drop 3 = _ ++ cs.drop 4 := cat_part e3
  have r4 : cs.drop 4 = _ ++ cs.drop 5 := cat_part e4
  have r5 : cs.drop 5 = _ ++ cs.drop 6 := cat_part e5
  have r6 : cs.drop 6 = _ ++ cs.drop 7 := cat_part e6
  have r7 : cs.drop 7 = _ ++ cs.drop 8 := cat_part e7
  have rn : cs.drop 8 = [] := cat_end (hl.trans (by kernel_rfl))
  exact ⟨⟨a0, a1, a2, a3, a4, a5, a6, a7⟩, (List.drop_zero).symm.trans (r0.trans (by rw [r1, r2, r3, r4, r5, r6, r7, rn]; rfl)), w0, w1, w2, w3, w4, trivial, ⟨l6, m6, w6⟩, ⟨l7, m7, w7⟩⟩
end
end Go.Q.Yh

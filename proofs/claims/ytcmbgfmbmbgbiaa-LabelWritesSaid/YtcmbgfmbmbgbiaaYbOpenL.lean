/- A part of the proof of statements of this seat: lemmas, no statement of their own. -/
import Derived.Test.YtcmbgfmbmbgbiaaYbTab
import Derived.Test.YtcmbgfmbmbgbiaaQOpen
set_option linter.unusedVariables false
set_option maxRecDepth 100000
set_option maxHeartbeats 1000000
namespace Go.Q.Yb
open Go.ChangeShapes Go.WideShapes
section
variable {H : Type} {enc : TypeId × Value → H} {w : World} {base : Nat} {sp : Nat → Bool} {held : Bool}
def Ok_S_api_Label (h : Heap) (v : S_api_Label) : Prop := (v.f_Name.size ≤ maxLen) ∧ (v.f_Value.size ≤ maxLen)

theorem open_S_api_Label {fuel : Nat} {cs : List Value} {x : DataW H × List MemPlace} (h : DataW.trod enc Go.Proofs.Try.prog w base sp held fuel 163 cs = some x) : ∃ v : S_api_Label, cs = S_api_Label.cs v ∧ Ok_S_api_Label w.heap v := by
  obtain ⟨n, hl, g⟩ := open_fs Go.Proofs.Try.underlying163 h
  obtain ⟨y0, g0⟩ := g 0 _ rfl
  replace g0 : DataW.trod enc Go.Proofs.Try.prog w base sp held n 9 ((cs.drop 0).take (Go.Proofs.Try.prog.cellsOf 9)) = some y0 := g0
  rw [show Go.Proofs.Try.prog.cellsOf 9 = 1 from by kernel_rfl] at g0
  obtain ⟨a0, e0, _, w0⟩ := DataW.trod_string Go.Proofs.Try.underlying9 g0
  obtain ⟨y1, g1⟩ := g 1 _ rfl
  replace g1 : DataW.trod enc Go.Proofs.Try.prog w base sp held n 9 ((cs.drop 1).take (Go.Proofs.Try.prog.cellsOf 9)) = some y1 := g1
  rw [show Go.Proofs.Try.prog.cellsOf 9 = 1 from by kernel_rfl] at g1
  obtain ⟨a1, e1, _, w1⟩ := DataW.trod_string Go.Proofs.Try.underlying9 g1
  have r0 : cs.drop 0 = _ ++ cs.drop 1 := cat_part e0
  have r1 : cs.drop 1 = _ ++ cs.drop 2 := cat_part e1
  have rn : cs.drop 2 = [] := cat_end (hl.trans (by kernel_rfl))
  exact ⟨⟨a0, a1⟩, (List.drop_zero).symm.trans (r0.trans (by rw [r1, rn]; rfl)), w0, w1⟩

def Ok_S_api_Question (h : Heap) (v : S_api_Question) : Prop := (v.f_Name.size ≤ maxLen) ∧ ((Lit.int .i64 v.f_Sign).wf = true) ∧ (v.f_Value.size ≤ maxLen)

theorem open_S_api_Question {fuel : Nat} {cs : List Value} {x : DataW H × List MemPlace} (h : DataW.trod enc Go.Proofs.Try.prog w base sp held fuel 165 cs = some x) : ∃ v : S_api_Question, cs = S_api_Question.cs v ∧ Ok_S_api_Question w.heap v := by
  obtain ⟨n, hl, g⟩ := open_fs Go.Proofs.Try.underlying165 h
  obtain ⟨y0, g0⟩ := g 0 _ rfl
  replace g0 : DataW.trod enc Go.Proofs.Try.prog w base sp held n 9 ((cs.drop 0).take (Go.Proofs.Try.prog.cellsOf 9)) = some y0 := g0
  rw [show Go.Proofs.Try.prog.cellsOf 9 = 1 from by kernel_rfl] at g0
  obtain ⟨a0, e0, _, w0⟩ := DataW.trod_string Go.Proofs.Try.underlying9 g0
  obtain ⟨y1, g1⟩ := g 1 _ rfl
  replace g1 : DataW.trod enc Go.Proofs.Try.prog w base sp held n 3 ((cs.drop 1).take (Go.Proofs.Try.prog.cellsOf 3)) = some y1 := g1
  rw [show Go.Proofs.Try.prog.cellsOf 3 = 1 from by kernel_rfl] at g1
  obtain ⟨a1, e1, _, w1⟩ := DataW.trod_int Go.Proofs.Try.underlying3 g1
  obtain ⟨y2, g2⟩ := g 2 _ rfl
  replace g2 : DataW.trod enc Go.Proofs.Try.prog w base sp held n 9 ((cs.drop 2).take (Go.Proofs.Try.prog.cellsOf 9)) = some y2 := g2
  rw [show Go.Proofs.Try.prog.cellsOf 9 = 1 from by kernel_rfl] at g2
  obtain ⟨a2, e2, _, w2⟩ := DataW.trod_string Go.Proofs.Try.underlying9 g2
  have r0 : cs.drop 0 = _ ++ cs.drop 1 := cat_part e0
  have r1 : cs.drop 1 = _ ++ cs.drop 2 := cat_part e1
  have r2 : cs.drop 2 = _ ++ cs.drop 3 := cat_part e2
  have rn : cs.drop 3 = [] := cat_end (hl.trans (by kernel_rfl))
  exact ⟨⟨a0, a1, a2⟩, (List.drop_zero).symm.trans (r0.trans (by rw [r1, r2, rn]; rfl)), w0, w1, w2⟩

def Ok_S_api_Selector (h : Heap) (v : S_api_Selector) : Prop := (v.f_Name.size ≤ maxLen) ∧ (v.f_L.len ≤ v.f_L.cap ∧ v.f_L.cap ≤ maxLen ∧ ∃ ys : List S_api_Question, LsAt S_api_Question.cs 3 h v.f_L ys ∧ ∀ y ∈ ys, Ok_S_api_Question h y)

theorem open_S_api_Selector {fuel : Nat} {cs : List Value} {x : DataW H × List MemPlace} (h : DataW.trod enc Go.Proofs.Try.prog w base sp held fuel 63 cs = some x) : ∃ v : S_api_Selector, cs = S_api_Selector.cs v ∧ Ok_S_api_Selector w.heap v := by
  obtain ⟨n, hl, g⟩ := open_fs Go.Proofs.Try.underlying63 h
  obtain ⟨y0, g0⟩ := g 0 _ rfl
  replace g0 : DataW.trod enc Go.Proofs.Try.prog w base sp held n 9 ((cs.drop 0).take (Go.Proofs.Try.prog.cellsOf 9)) = some y0 := g0
  rw [show Go.Proofs.Try.prog.cellsOf 9 = 1 from by kernel_rfl] at g0
  obtain ⟨a0, e0, _, w0⟩ := DataW.trod_string Go.Proofs.Try.underlying9 g0
  obtain ⟨y1, g1⟩ := g 1 _ rfl
  replace g1 : DataW.trod enc Go.Proofs.Try.prog w base sp held n 61 ((cs.drop 1).take (Go.Proofs.Try.prog.cellsOf 61)) = some y1 := g1
  rw [show Go.Proofs.Try.prog.cellsOf 61 = 1 from by kernel_rfl] at g1
  obtain ⟨a1, e1, l1, m1, w1⟩ := open_ls (cs := S_api_Question.cs) (w' := 3) Go.Proofs.Try.underlying61 (by kernel_rfl) (fun hq => open_S_api_Question hq) g1
  have r0 : cs.drop 0 = _ ++ cs.drop 1 := cat_part e0
  have r1 : cs.drop 1 = _ ++ cs.drop 2 := cat_part e1
  have rn : cs.drop 2 = [] := cat_end (hl.trans (by kernel_rfl))
  exact ⟨⟨a0, a1⟩, (List.drop_zero).symm.trans (r0.trans (by rw [r1, rn]; rfl)), w0, ⟨l1, m1, w1⟩⟩

def Ok_S_api_Series (h : Heap) (v : S_api_Series) : Prop := (v.f_Name.size ≤ maxLen) ∧ (v.f_Labels.len ≤ v.f_Labels.cap ∧ v.f_Labels.cap ≤ maxLen ∧ ∃ ys : List S_api_Label, LsAt S_api_Label.cs 2 h v.f_Labels ys ∧ ∀ y ∈ ys, Ok_S_api_Label h y)

theorem open_S_api_Series {fuel : Nat} {cs : List Value} {x : DataW H × List MemPlace} (h : DataW.trod enc Go.Proofs.Try.prog w base sp held fuel 66 cs = some x) : ∃ v : S_api_Series, cs = S_api_Series.cs v ∧ Ok_S_api_Series w.heap v := by
  obtain ⟨n, hl, g⟩ := open_fs Go.Proofs.Try.underlying66 h
  obtain ⟨y0, g0⟩ := g 0 _ rfl
  replace g0 : DataW.trod enc Go.Proofs.Try.prog w base sp held n 9 ((cs.drop 0).take (Go.Proofs.Try.prog.cellsOf 9)) = some y0 := g0
  rw [show Go.Proofs.Try.prog.cellsOf 9 = 1 from by kernel_rfl] at g0
  obtain ⟨a0, e0, _, w0⟩ := DataW.trod_string Go.Proofs.Try.underlying9 g0
  obtain ⟨y1, g1⟩ := g 1 _ rfl
  replace g1 : DataW.trod enc Go.Proofs.Try.prog w base sp held n 64 ((cs.drop 1).take (Go.Proofs.Try.prog.cellsOf 64)) = some y1 := g1
  rw [show Go.Proofs.Try.prog.cellsOf 64 = 1 from by kernel_rfl] at g1
  obtain ⟨a1, e1, l1, m1, w1⟩ := open_ls (cs := S_api_Label.cs) (w' := 2) Go.Proofs.Try.underlying64 (by kernel_rfl) (fun hq => open_S_api_Label hq) g1
  have r0 : cs.drop 0 = _ ++ cs.drop 1 := cat_part e0
  have r1 : cs.drop 1 = _ ++ cs.drop 2 := cat_part e1
  have rn : cs.drop 2 = [] := cat_end (hl.trans (by kernel_rfl))
  exact ⟨⟨a0, a1⟩, (List.drop_zero).symm.trans (r0.trans (by rw [r1, rn]; rfl)), w0, ⟨l1, m1, w1⟩⟩
end
end Go.Q.Yb

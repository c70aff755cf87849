/- A part of the proof of statements of this seat: lemmas, no statement of their own. -/
import Derived.Test.YtcmbgfmbmbgbiaaYbTab
import Derived.Test.YtcmbgfmbmbgbiaaQOpen
set_option linter.unusedVariables false
set_option maxRecDepth 100000
set_option maxHeartbeats 1000000
namespace Go.Q.Yb
open Go.ChangeShapes Go.WideShapes
section
variable {H : Type} {enc : TypeId × Value → H} {w : World} {base : Nat} {sp : Nat → Bool} {held : Bool}
def Ok_S_quaestorlaw09_Act (h : Heap) (v : S_quaestorlaw09_Act) : Prop := ((Lit.int .i64 v.f_Kind).wf = true) ∧ ((Lit.int .i64 v.f_At).wf = true) ∧ (v.f_B.len ≤ v.f_B.cap ∧ v.f_B.cap ≤ maxLen ∧ ∃ zs, SlI .u8 h v.f_B zs)

theorem open_S_quaestorlaw09_Act {fuel : Nat} {cs : List Value} {x : DataW H × List MemPlace} (h : DataW.trod enc Go.Proofs.Try.prog w base sp held fuel 100 cs = some x) : ∃ v : S_quaestorlaw09_Act, cs = S_quaestorlaw09_Act.cs v ∧ Ok_S_quaestorlaw09_Act w.heap v := by
  obtain ⟨n, hl, g⟩ := open_fs Go.Proofs.Try.underlying100 h
  obtain ⟨y0, g0⟩ := g 0 _ rfl
  replace g0 : DataW.trod enc Go.Proofs.Try.prog w base sp held n 3 ((cs.drop 0).take (Go.Proofs.Try.prog.cellsOf 3)) = some y0 := g0
  rw [show Go.Proofs.Try.prog.cellsOf 3 = 1 from by kernel_rfl] at g0
  obtain ⟨a0, e0, _, w0⟩ := DataW.trod_int Go.Proofs.Try.underlying3 g0
  obtain ⟨y1, g1⟩ := g 1 _ rfl
  replace g1 : DataW.trod enc Go.Proofs.Try.prog w base sp held n 3 ((cs.drop 1).take (Go.Proofs.Try.prog.cellsOf 3)) = some y1 := g1
  rw [show Go.Proofs.Try.prog.cellsOf 3 = 1 from by kernel_rfl] at g1
  obtain ⟨a1, e1, _, w1⟩ := DataW.trod_int Go.Proofs.Try.underlying3 g1
  obtain ⟨y2, g2⟩ := g 2 _ rfl
  replace g2 : DataW.trod enc Go.Proofs.Try.prog w base sp held n 30 ((cs.drop 2).take (Go.Proofs.Try.prog.cellsOf 30)) = some y2 := g2
  rw [show Go.Proofs.Try.prog.cellsOf 30 = 1 from by kernel_rfl] at g2
  obtain ⟨a2, e2, l2, m2, w2⟩ := open_si Go.Proofs.Try.underlying30 Go.Proofs.Try.underlying5 (by kernel_rfl) g2
  have r0 : cs.drop 0 = _ ++ cs.drop 1 := cat_part e0
  have r1 : cs.drop 1 = _ ++ cs.drop 2 := cat_part e1
  have r2 : cs.drop 2 = _ ++ cs.drop 3 := cat_part e2
  have rn : cs.drop 3 = [] := cat_end (hl.trans (by kernel_rfl))
  exact ⟨⟨a0, a1, a2⟩, (List.drop_zero).symm.trans (r0.trans (by rw [r1, r2, rn]; rfl)), w0, w1, ⟨l2, m2, w2⟩⟩
end
end Go.Q.Yb

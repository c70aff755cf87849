/- A part of the proof of statements of this seat: lemmas, no statement of their own. -/
import Derived.Test.YtcmbgfmbmbgbiaaYbTab
import Derived.Test.YtcmbgfmbmbgbiaaQOpen
set_option linter.unusedVariables false
set_option maxRecDepth 100000
set_option maxHeartbeats 1000000
namespace Go.Q.Yb
open Go.ChangeShapes Go.WideShapes
section
variable {H : Type} {enc : TypeId × Value → H} {w : World} {base : Nat} {sp : Nat → Bool} {held : Bool}
def Ok_S_api_Command (h : Heap) (v : S_api_Command) : Prop := ((Lit.int .i64 v.f_Kind).wf = true) ∧ (v.f_Tenant.size ≤ maxLen) ∧ ((Lit.int .u32 v.f_Epoch).wf = true) ∧ (v.f_Nonce.length = 12 ∧ ∀ x ∈ v.f_Nonce, (Lit.int .u8 x).wf = true) ∧ (v.f_Wrapped.len ≤ v.f_Wrapped.cap ∧ v.f_Wrapped.cap ≤ maxLen ∧ ∃ zs, SlI .u8 h v.f_Wrapped zs) ∧ ((Lit.int .i64 v.f_Horizon).wf = true)

theorem open_S_api_Command {fuel : Nat} {cs : List Value} {x : DataW H × List MemPlace} (h : DataW.trod enc Go.Proofs.Try.prog w base sp held fuel 32 cs = some x) : ∃ v : S_api_Command, cs = S_api_Command.cs v ∧ Ok_S_api_Command w.heap v := by
  obtain ⟨n, hl, g⟩ := open_fs Go.Proofs.Try.underlying32 h
  obtain ⟨y0, g0⟩ := g 0 _ rfl
  replace g0 : DataW.trod enc Go.Proofs.Try.prog w base sp held n 3 ((cs.drop 0).take (Go.Proofs.Try.prog.cellsOf 3)) = some y0 := g0
  rw [show Go.Proofs.Try.prog.cellsOf 3 = 1 from by kernel_rfl] at g0
  obtain ⟨a0, e0, _, w0⟩ := DataW.trod_int Go.Proofs.Try.underlying3 g0
  obtain ⟨y1, g1⟩ := g 1 _ rfl
  replace g1 : DataW.trod enc Go.Proofs.Try.prog w base sp held n 9 ((cs.drop 1).take (Go.Proofs.Try.prog.cellsOf 9)) = some y1 := g1
  rw [show Go.Proofs.Try.prog.cellsOf 9 = 1 from by kernel_rfl] at g1
  obtain ⟨a1, e1, _, w1⟩ := DataW.trod_string Go.Proofs.Try.underlying9 g1
  obtain ⟨y2, g2⟩ := g 2 _ rfl
  replace g2 : DataW.trod enc Go.Proofs.Try.prog w base sp held n 27 ((cs.drop 2).take (Go.Proofs.Try.prog.cellsOf 27)) = some y2 := g2
  rw [show Go.Proofs.Try.prog.cellsOf 27 = 1 from by kernel_rfl] at g2
  obtain ⟨a2, e2, _, w2⟩ := DataW.trod_int Go.Proofs.Try.underlying27 g2
  obtain ⟨y3, g3⟩ := g 3 _ rfl
  replace g3 : DataW.trod enc Go.Proofs.Try.prog w base sp held n 29 ((cs.drop 3).take (Go.Proofs.Try.prog.cellsOf 29)) = some y3 := g3
  rw [show Go.Proofs.Try.prog.cellsOf 29 = 12 from by kernel_rfl] at g3
  obtain ⟨a3, e3, l3, w3⟩ := open_arr Go.Proofs.Try.underlying29 Go.Proofs.Try.underlying5 (by kernel_rfl) (by kernel_rfl) g3
  obtain ⟨y4, g4⟩ := g 4 _ rfl
  replace g4 : DataW.trod enc Go.Proofs.Try.prog w base sp held n 30 ((cs.drop 15).take (Go.Proofs.Try.prog.cellsOf 30)) = some y4 := g4
  rw [show Go.Proofs.Try.prog.cellsOf 30 = 1 from by kernel_rfl] at g4
  obtain ⟨a4, e4, l4, m4, w4⟩ := open_si Go.Proofs.Try.underlying30 Go.Proofs.Try.underlying5 (by kernel_rfl) g4
  obtain ⟨y5, g5⟩ := g 5 _ rfl
  replace g5 : DataW.trod enc Go.Proofs.Try.prog w base sp held n 2 ((cs.drop 16).take (Go.Proofs.Try.prog.cellsOf 2)) = some y5 := g5
  rw [show Go.Proofs.Try.prog.cellsOf 2 = 1 from by kernel_rfl] at g5
  obtain ⟨a5, e5, _, w5⟩ := DataW.trod_int Go.Proofs.Try.underlying2 g5
  have r0 : cs.drop 0 = _ ++ cs.drop 1 := cat_part e0
  have r1 : cs.drop 1 = _ ++ cs.drop 2 := cat_part e1
  have r2 : cs.drop 2 = _ ++ cs.drop 3 := cat_part e2
  have r3 : cs.drop 3 = _ ++ cs.drop 15 := cat_part e3
  have r4 : cs.drop 15 = _ ++ cs.drop 16 := cat_part e4
  have r5 : cs.drop 16 = _ ++ cs.drop 17 := cat_part e5
  have rn : cs.drop 17 = [] := cat_end (hl.trans (by kernel_rfl))
  exact ⟨⟨a0, a1, a2, a3, a4, a5⟩, (List.drop_zero).symm.trans (r0.trans (by rw [r1, r2, r3, r4, r5, rn]; rfl)), w0, w1, w2, ⟨l3, w3⟩, ⟨l4, m4, w4⟩, w5⟩
end
end Go.Q.Yb

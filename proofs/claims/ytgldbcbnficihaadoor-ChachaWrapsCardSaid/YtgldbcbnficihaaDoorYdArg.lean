/- A part of the proof of statements of this seat: lemmas, no statement of their own. -/
import Derived.Test.YtgldbcbnficihaaDoorYdLaw10
set_option linter.unusedVariables false
namespace Go.Q.Yd
theorem arg8_of {w : World} {a : Option Addr} {len cap : Nat} {zs : List Int}
    (r : (a = none ∧ len = 0 ∧ cap = 0 ∧ zs = []) ∨ ∃ x, a = some x ∧ len ≤ cap ∧ cap ≤ maxLen ∧ zs.length = cap ∧ (∀ i, i < zs.length → w.cell? (x.add i) = some (.int .u8 (zs.getD i 0))) ∧ ∀ n ∈ zs, (Lit.int .u8 n).wf = true) :
    Arg8 w.heap ⟨a, len, cap⟩ (zs.take len) := by
  rcases r with ⟨rfl, rfl, rfl, rfl⟩ | ⟨x, rfl, h1, h2, h3, h4, h5⟩
  · exact ⟨⟨fun _ => rfl, fun a ha => by cases ha⟩, rfl, Nat.le_refl _, fun b hb => by simp at hb⟩
  · refine ⟨⟨fun hn => (by cases hn), fun a ha j v hj => ?_⟩, by simp; omega, h1, fun b hb => wf_u8 (h5 b (List.mem_of_mem_take hb))⟩
    simp only [Option.some.injEq] at ha; subst ha
    rw [List.getElem?_map, List.getElem?_take] at hj
    split at hj
    · rename_i hlt
      have := h4 j (by omega)
      rw [cell_eq] at this
      rw [this, ← hj]
      simp [List.getD, show j < zs.length from by omega]
    · simp at hj
end Go.Q.Yd

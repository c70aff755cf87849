/- A part of the proof of statements of this seat: lemmas, no statement of their own. -/
import Derived.Test.YtidhlagdagbggaaGreatQSem
import Derived.OpenShut
/- Arguments that came in; the way from a walk to the row's own words. -/
namespace Go.Q
set_option linter.unusedVariables false
open Go.RowKit
/-- a slice of integers that came in: its elements are the numbers zs, in a block below B -/
def ArgI (k : IntKind) (B : Nat) (h : Heap) (s : Slc) (zs : List Int) : Prop :=
  s.len = zs.length ∧ (∀ n ∈ zs, (Lit.int k n).wf = true) ∧ (s.len = 0 ∨ ∃ x, s.a = some x ∧ x.block < B ∧ ∀ i, i < zs.length → cellH h (x.add i) = some (.int k (zs.getD i 0)))
theorem ArgI.ext {k : IntKind} {B : Nat} {h h' : Heap} {s : Slc} {zs : List Int} (a : ArgI k B h s zs) (p : Ext B h h') : ArgI k B h' s zs := by
  refine ⟨a.1, a.2.1, ?_⟩
  rcases a.2.2 with h0 | ⟨x, h1, h2, h3⟩
  · exact .inl h0
  · exact .inr ⟨x, h1, h2, fun i hi => by rw [p.cell (by simpa using h2)]; exact h3 i hi⟩
theorem ArgI.get {k : IntKind} {B : Nat} {h : Heap} {s : Slc} {zs : List Int} (a : ArgI k B h s zs) {i : Nat} (hi : i < zs.length) : ∃ x, s.a = some x ∧ cellH h (x.add i) = some (.int k (zs.getD i 0)) := by
  rcases a.2.2 with h0 | ⟨x, h1, h2, h3⟩
  · have := a.1; omega
  · exact ⟨x, h1, h3 i hi⟩
/-- what the guide's shell of a proof says of such an argument -/
theorem ArgI.of {k : IntKind} {w : World} {a : Option Addr} {len cap : Nat} {zs : List Int}
    (r : (a = none ∧ len = 0 ∧ cap = 0 ∧ zs = []) ∨ ∃ x, a = some x ∧ len ≤ cap ∧ cap ≤ maxLen ∧ zs.length = cap ∧ (∀ i, i < zs.length → w.cell? (x.add i) = some (.int k (zs.getD i 0))) ∧ ∀ n ∈ zs, (Lit.int k n).wf = true) :
    ArgI k w.heap.size w.heap ⟨a, len, cap⟩ (zs.take len) := by
  rcases r with ⟨rfl, rfl, rfl, rfl⟩ | ⟨x, rfl, h1, h2, h3, h4, h5⟩
  · exact ⟨rfl, by simp, .inl rfl⟩
  · refine ⟨by simp; omega, fun n hn => h5 n (List.mem_of_mem_take hn), ?_⟩
    rcases Nat.eq_zero_or_pos len with h0 | h0
    · exact .inl h0
    · refine .inr ⟨x, rfl, ?_, fun i hi => ?_⟩
      · have := h4 0 (by omega)
        rw [cell_eq] at this
        simpa using cellH_lt this
      · simp only [List.length_take] at hi
        have := h4 i (by omega)
        rw [cell_eq] at this
        rw [this]
        congr 2
        simp [List.getD, show i < len from by omega]
theorem wf_i64 {n : Int} (h : (Lit.int .i64 n).wf = true) : -9223372036854775808 ≤ n ∧ n < 9223372036854775808 := by
  simp [Lit.wf, IntKind.min, IntKind.max, IntKind.signed, IntKind.bits] at h; omega
/-- from the walk to the row: a law answers true and has written nothing that was there -/
theorem law_calls {P : Program} {f : FuncId} {args : Array Value} {w : World}
    (H : CallsH P f args w.heap fun v h' => ∃ r : Bool, v = .bool r ∧ r = true ∧ Ext w.heap.size w.heap h') :
    Calls P f args w fun e w' => e = .returned (.bool true) ∧ Below w.heap.size w w' :=
  (H w rfl).mono fun e w' ⟨v, he, hw, r, hv, hr, hx⟩ => by
    subst hr; subst hv
    exact ⟨he, hw.os, hw.tape, hw.output, hx.size, hx.block⟩
end Go.Q

/- A part of the proof of statements of this seat: lemmas, no statement of their own. -/
import Derived.Test.YtidhlagdagbggaaGreatQArg
import Derived.Test.YtidhlagdagbggaaGreatQConv
/- Numbers and rows of bytes: plain laws. -/
namespace Go.Q
set_option linter.unusedVariables false
set_option linter.unusedSimpArgs false
abbrev b8 (l : List Int) : List Value := l.map (Value.int .u8)
theorem SlcAt.of_blk {h : Heap} {g E n m : Nat} {xs ys : List Value} (k : Blk h g (xs ++ ys) E) : SlcAt h ⟨some ⟨g, 0, none⟩, n, m⟩ xs := by
  refine ⟨fun hn => (by cases hn), fun a ha j v hj => ?_⟩
  simp only [Option.some.injEq] at ha; subst ha
  rw [add_mk, Nat.zero_add, k.cell, List.getElem?_append_left (List.getElem?_eq_some_iff.1 hj).1]
  exact hj
theorem SlcAt.sub {h : Heap} {s : Slc} {vs : List Value} {w l u m : Nat} (hs : SlcAt h s vs) (h1 : l ≤ u) (h2 : u ≤ m) : SlcAt h (subS s w l u m) ((vs.drop (l * w)).take ((u - l) * w)) := by
  refine ⟨fun hn => ?_, fun a ha j v hj => ?_⟩
  · have : s.a = none := by
      simp only [subS] at hn
      split at hn
      · exact hn
      · simpa using hn
    rw [hs.1 this]; simp
  · rw [List.getElem?_take] at hj
    split at hj
    · rename_i hlt
      rw [List.getElem?_drop] at hj
      simp only [subS] at ha
      split at ha
      · rename_i hml
        rw [show u - l = 0 from by omega] at hlt
        omega
      · simp only [Option.map_eq_some_iff] at ha
        obtain ⟨b, hb, rfl⟩ := ha
        have : (b.add (l * w)).add j = b.add (l * w + j) := by
          unfold Addr.add
          by_cases h0 : l * w = 0 <;> by_cases h1 : j = 0 <;> simp [h0, h1, Nat.add_assoc]
        rw [this]
        exact hs.2 b hb _ v hj
    · cases hj
end Go.Q

/- A part of the proof of statements of this seat: lemmas, no statement of their own. -/
import Derived.Test.YtidhlagdagbggaaGreatYzTab
import Derived.Test.YtidhlagdagbggaaGreatQLs
import Derived.Test.YtidhlagdagbggaaGreatQFr
import Derived.Test.YtidhlagdagbggaaGreatQPure
set_option linter.unusedVariables false
set_option linter.unusedSimpArgs false
set_option maxRecDepth 100000
namespace Go.Q
theorem SlcAt.get {h : Heap} {s : Slc} {vs : List Value} (S : SlcAt h s vs) {i : Nat} {v : Value} (hv : vs[i]? = some v) : ∃ a, s.a = some a ∧ cellH h (a.add i) = some v := by
  cases ha : s.a with
  | none => have := S.1 ha; subst this; simp at hv
  | some a => exact ⟨a, rfl, S.2 a ha i v hv⟩
theorem add_add2 (b : Addr) (m n : Nat) : (b.add m).add n = b.add (m + n) := by
  unfold Addr.add
  by_cases h0 : m = 0 <;> by_cases h1 : n = 0 <;> simp [h0, h1, Nat.add_assoc]
section
variable {α : Type} {cs : α → List Value} {w : Nat}
theorem fm_len (hc : ∀ x, (cs x).length = w) (xs : List α) : (xs.flatMap cs).length = xs.length * w := by
  induction xs with
  | nil => simp
  | cons x xs ih => simp only [List.flatMap_cons, List.length_append, ih, hc, List.length_cons, Nat.add_mul]; omega
theorem fm_get (hc : ∀ x, (cs x).length = w) : ∀ (xs : List α) (i j : Nat), j < w → (xs.flatMap cs)[i * w + j]? = (xs[i]?).bind fun x => (cs x)[j]?
  | [], i, j, h => by simp
  | x :: r, 0, j, h => by
    simp only [List.flatMap_cons, Nat.zero_mul, Nat.zero_add, List.getElem?_cons_zero, Option.bind_some]
    rw [List.getElem?_append_left (by rw [hc]; exact h)]
  | x :: r, i + 1, j, h => by
    simp only [List.flatMap_cons, List.getElem?_cons_succ]
    rw [List.getElem?_append_right (by rw [hc, Nat.add_mul]; omega)]
    have := fm_get hc r i j h
    rw [← this, hc]
    congr 1
    rw [Nat.add_mul]; omega
theorem LsAt.of_slc (hc : ∀ x, (cs x).length = w) {h : Heap} {s : Slc} {xs : List α} (S : SlcAt h s (xs.flatMap cs)) (hl : s.len = xs.length) (hw : 0 < w) : LsAt cs w h s xs := by
  refine ⟨hl, fun i x hx => ?_⟩
  have hi := (List.getElem?_eq_some_iff.1 hx).1
  have h0 : (xs.flatMap cs)[i * w + 0]? = (cs x)[0]? := by rw [fm_get hc xs i 0 hw, hx]; rfl
  obtain ⟨v0, hv0⟩ : ∃ v, (cs x)[0]? = some v := ⟨_, List.getElem?_eq_getElem (by rw [hc]; exact hw)⟩
  rw [hv0] at h0
  obtain ⟨a, ha, _⟩ := S.get h0
  refine ⟨a, ha, fun j v hj => ?_⟩
  have hj2 : j < w := by have := (List.getElem?_eq_some_iff.1 hj).1; rw [hc] at this; exact this
  rw [add_add2]
  refine S.2 a ha _ v ?_
  rw [fm_get hc xs i j hj2, hx]; exact hj
theorem LsAt.slc (hc : ∀ x, (cs x).length = w) {h : Heap} {s : Slc} {xs : List α} (L : LsAt cs w h s xs) (hw : 0 < w) : SlcAt h s (xs.flatMap cs) := by
  refine ⟨fun hn => ?_, fun a ha j v hj => ?_⟩
  · cases xs with
    | nil => rfl
    | cons x r =>
      obtain ⟨a, h1, _⟩ := L.at' 0 x rfl
      rw [hn] at h1; cases h1
  · have e := fm_get hc xs (j / w) (j % w) (Nat.mod_lt _ hw)
    rw [Nat.mul_comm, Nat.div_add_mod, hj] at e
    obtain ⟨x, hx, hv⟩ := Option.bind_eq_some_iff.1 e.symm
    obtain ⟨b, hb, C⟩ := L.at' _ x hx
    rw [ha] at hb; cases hb
    have := C _ _ hv
    rw [add_add2, show j / w * w + j % w = j from by rw [Nat.mul_comm]; exact Nat.div_add_mod j w] at this
    exact this
end
namespace Yz
end Yz
end Go.Q

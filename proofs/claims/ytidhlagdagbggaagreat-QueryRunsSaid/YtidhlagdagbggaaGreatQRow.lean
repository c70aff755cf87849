/- A part of the proof of statements of this seat: lemmas, no statement of their own. -/
import Derived.Test.YtidhlagdagbggaaGreatQLs
set_option linter.unusedVariables false
set_option linter.unusedSimpArgs false
/- Rows of structs. -/
namespace Go.Q.Rw
theorem slc_get {h : Heap} {s : Slc} {vs : List Value} (S : SlcAt h s vs) {i : Nat} {v : Value} (hv : vs[i]? = some v) : ∃ a, s.a = some a ∧ cellH h (a.add i) = some v := by
  cases ha : s.a with
  | none => have := S.1 ha; subst this; simp at hv
  | some a => exact ⟨a, rfl, S.2 a ha i v hv⟩
theorem add_add2 (b : Addr) (m n : Nat) : (b.add m).add n = b.add (m + n) := by
  unfold Addr.add
  by_cases h0 : m = 0 <;> by_cases h1 : n = 0 <;> simp [h0, h1, Nat.add_assoc]
section
variable {α : Type} {cs : α → List Value} {w : Nat}
theorem fm_len (hc : ∀ x, (cs x).length = w) (xs : List α) : (xs.flatMap cs).length = xs.length * w := by
  induction xs with
  | nil => simp
  | cons x xs ih => simp only [List.flatMap_cons, List.length_append, ih, hc, List.length_cons, Nat.add_mul]; omega
theorem fm_get (hc : ∀ x, (cs x).length = w) : ∀ (xs : List α) (i j : Nat), j < w → (xs.flatMap cs)[i * w + j]? = (xs[i]?).bind fun x => (cs x)[j]?
  | [], i, j, h => by simp
  | x :: r, 0, j, h => by
    simp only [List.flatMap_cons, Nat.zero_mul, Nat.zero_add, List.getElem?_cons_zero, Option.bind_some]
    rw [List.getElem?_append_left (by rw [hc]; exact h)]
  | x :: r, i + 1, j, h => by
    simp only [List.flatMap_cons, List.getElem?_cons_succ]
    rw [List.getElem?_append_right (by rw [hc, Nat.add_mul]; omega)]
    have := fm_get hc r i j h
    rw [← this, hc]
    congr 1
    rw [Nat.add_mul]; omega
theorem ls_of_slc (hc : ∀ x, (cs x).length = w) {h : Heap} {s : Slc} {xs : List α} (S : SlcAt h s (xs.flatMap cs)) (hl : s.len = xs.length) (hw : 0 < w) : LsAt cs w h s xs := by
  refine ⟨hl, fun i x hx => ?_⟩
  have hi := (List.getElem?_eq_some_iff.1 hx).1
  have h0 : (xs.flatMap cs)[i * w + 0]? = (cs x)[0]? := by rw [fm_get hc xs i 0 hw, hx]; rfl
  obtain ⟨v0, hv0⟩ : ∃ v, (cs x)[0]? = some v := ⟨_, List.getElem?_eq_getElem (by rw [hc]; exact hw)⟩
  rw [hv0] at h0
  obtain ⟨a, ha, _⟩ := slc_get S h0
  refine ⟨a, ha, fun j v hj => ?_⟩
  have hj2 : j < w := by have := (List.getElem?_eq_some_iff.1 hj).1; rw [hc] at this; exact this
  rw [add_add2]
  refine S.2 a ha _ v ?_
  rw [fm_get hc xs i j hj2, hx]; exact hj
end
/-- a row of structs of one's own: one of them is written -/
theorem fm_sets {α : Type} {cs : α → List Value} {w : Nat} (hc : ∀ x, (cs x).length = w) : ∀ (xs : List α) (i : Nat) (x : α), i < xs.length → (xs.flatMap cs).take (i * w) ++ cs x ++ (xs.flatMap cs).drop ((i + 1) * w) = (xs.set i x).flatMap cs
  | [], i, x, h => by simp at h
  | y :: r, 0, x, h => by
    simp only [Nat.zero_mul, List.take_zero, List.nil_append, List.flatMap_cons, List.set_cons_zero, Nat.zero_add, Nat.one_mul]
    rw [List.drop_append_of_le_length (by rw [hc]; exact Nat.le_refl _), List.drop_of_length_le (by rw [hc]; exact Nat.le_refl _), List.nil_append]
  | y :: r, i + 1, x, h => by
    simp only [List.flatMap_cons, List.set_cons_succ]
    rw [← fm_sets hc r i x (by simpa using h)]
    rw [List.take_append, hc, List.take_of_length_le (by rw [hc, Nat.add_mul]; omega), List.drop_append, hc, List.drop_of_length_le (by rw [hc, Nat.add_mul]; omega)]
    rw [show (i + 1) * w - w = i * w from by rw [Nat.add_mul]; omega, show (i + 1 + 1) * w - w = (i + 1) * w from by rw [Nat.add_mul (i + 1)]; omega]
    simp only [List.append_assoc, List.nil_append]
theorem tk_sets (cur v : List Value) (a n : Nat) (h : a + v.length ≤ n) (hn : n ≤ cur.length) : (cur.take a ++ v ++ cur.drop (a + v.length)).take n = (cur.take n).take a ++ v ++ (cur.take n).drop (a + v.length) := by
  have hl : (cur.take a ++ v).length = a + v.length := by rw [List.length_append, List.length_take]; omega
  rw [List.take_append, hl, List.take_of_length_le (by omega), List.take_take, Nat.min_eq_left (by omega), List.drop_take]
theorem row_setS {α : Type} {cs : α → List Value} {B E w : Nat} {h : Heap} {s : Slc} {xs : List α} (hc : ∀ x, (cs x).length = w) (R : Row B h E w s (xs.flatMap cs)) (hl : s.len = xs.length) {i : Nat} (hi : i < xs.length) (x : α) {a : Addr} (ha : s.a = some a) :
    WrsAt h (a.add (i * w)) w ∧ Row B (setsH h (a.add (i * w)) 0 (cs x)) E w s ((xs.set i x).flatMap cs) ∧ B ≤ a.block := by
  rcases R.2.2 with ⟨k, _⟩ | ⟨g, cur, a1, a2, a3, a4, a5, a6⟩
  · rw [k] at ha; cases ha
  · rw [ha] at a1; cases a1
    have hiw : i * w + w ≤ s.len * w := by
      have : (i + 1) * w ≤ s.len * w := Nat.mul_le_mul_right _ (by omega)
      rw [Nat.add_mul] at this; omega
    have hcap : s.len * w ≤ s.cap * w := Nat.mul_le_mul_right _ a4
    rw [add_mk, Nat.zero_add]
    refine ⟨fun j hj => by rw [add_mk]; exact a3.wr (by omega), ⟨by rw [fm_len hc, List.length_set, hl], R.2.1, .inr ⟨g, _, ha, a2, a3.sets (cs x) (i * w) 0 (by rw [hc]; omega), a4, ?_, ?_⟩⟩, a2⟩
    · simp only [List.length_append, List.length_take, List.length_drop, hc]; omega
    · rw [← fm_sets hc xs i x hi, ← a6, tk_sets cur (cs x) (i * w + 0) (s.len * w) (by rw [hc]; omega) (by omega), hc, Nat.add_zero, show (i + 1) * w = i * w + w from by rw [Nat.add_mul, Nat.one_mul]]
end Go.Q.Rw

/- A part of the proof of statements of this seat: lemmas, no statement of their own. -/
import Derived.Test.YtidhlagdagbggaaGreatYzVsa
import Derived.Sort.Walk0
set_option linter.unusedVariables false
/- slices.SortFunc of pieces by their order. -/
namespace Go.Q.Yz
open Go.Proofs Go.RowKit Go.Shelf Go.Sort
/-- a comparison that orders -/
structure Good {α : Type} (c : α → α → Int) : Prop where
  anti : ∀ x y, c y x = - c x y
  tr : ∀ x y z, c x y ≤ 0 → c y z ≤ 0 → c x z ≤ 0
def or1 (a b : Int) : Int := if a ≠ 0 then a else b
theorem Good.lex {α : Type} {c d : α → α → Int} (C : Good c) (D : Good d) : Good (fun x y => or1 (c x y) (d x y)) where
  anti x y := by
    have h1 := C.anti x y
    have h2 := D.anti x y
    unfold or1
    by_cases h : c x y = 0
    · rw [if_neg (by omega), if_neg (by omega)]; exact h2
    · rw [if_pos (by omega), if_pos h]; exact h1
  tr x y z := by
    have a1 := C.anti x y
    have a2 := C.anti y z
    have a3 := C.anti x z
    have t1 := C.tr x y z
    have t2 := C.tr z x y
    have t3 := C.tr y z x
    have d := D.tr x y z
    unfold or1
    intro h1 h2
    by_cases e1 : c x y = 0 <;> by_cases e2 : c y z = 0 <;> by_cases e3 : c x z = 0 <;> simp [e1, e2, e3] at h1 h2 ⊢ <;> first | omega | (exact d h1 h2) | skip
theorem Good.pull {α β : Type} {c : β → β → Int} (C : Good c) (f : α → β) : Good (fun x y => c (f x) (f y)) := ⟨fun x y => C.anti _ _, fun x y z => C.tr _ _ _⟩
theorem Good.zero {α : Type} : Good (fun _ _ : α => 0) := ⟨fun _ _ => rfl, fun _ _ _ _ _ => Int.le_refl _⟩
theorem good_I : Good cI where
  anti x y := by unfold cI; split <;> split <;> (try split) <;> omega
  tr x y z h1 h2 := by
    unfold cI at *
    split at h1 <;> split at h2 <;> (try split at h1) <;> (try split at h2) <;> split <;> (try split) <;> omega
theorem cS_eq (a b : ByteArray) : cS a b = if a.toList < b.toList then -1 else if b.toList < a.toList then 1 else 0 := by
  unfold cS
  rw [bytesLess_eq]
  by_cases h1 : a.toList < b.toList
  · rw [if_pos (by simpa using h1), if_pos h1]
  · rw [if_neg (by simpa using h1), if_neg h1]
    by_cases h2 : b.toList < a.toList
    · rw [if_pos h2, if_pos ?_]
      have : a.toList ≠ b.toList := fun e => by rw [e] at h2; exact List.lt_irrefl _ h2
      simpa [h1] using this
    · rw [if_neg h2, if_neg ?_]
      have : a.toList = b.toList := List.le_antisymm (List.not_lt.1 h2) (List.not_lt.1 h1)
      simp [this]
theorem good_S : Good cS where
  anti x y := by
    rw [cS_eq, cS_eq]
    by_cases h1 : x.toList < y.toList
    · have h2 : ¬ y.toList < x.toList := List.lt_asymm h1
      simp [h1, h2]
    · by_cases h2 : y.toList < x.toList <;> simp [h1, h2]
  tr x y z := by
    rw [cS_eq, cS_eq, cS_eq]
    have key : ∀ {a b : List UInt8}, (if a < b then (-1 : Int) else if b < a then 1 else 0) ≤ 0 ↔ a ≤ b := fun {a b} => by
      by_cases h1 : a < b
      · simp [h1, List.le_of_lt h1]
      · by_cases h2 : b < a
        · simp [h1, h2, List.not_le.2 h2]
        · simp [h1, h2, List.not_lt.1 h2]
    rw [key, key, key]
    exact List.le_trans
theorem orL_cons (x : Int) (r : List Int) : orL (x :: r) = or1 x (orL r) := rfl
theorem good_ids : Good idsP := (((good_I.pull S_api_Id.f_N).lex ((good_I.pull S_api_Id.f_Node).lex Good.zero)) : Good (fun x y : S_api_Id => or1 (cI x.f_N y.f_N) (or1 (cI x.f_Node y.f_Node) 0)))
theorem good_P : Good cmpP := ((good_S.pull S_api_Piece.f_Series).lex ((good_I.pull S_api_Piece.f_T).lex ((good_ids.pull S_api_Piece.f_Id).lex Good.zero)) : Good (fun x y : S_api_Piece => or1 (cS x.f_Series y.f_Series) (or1 (cI x.f_T y.f_T) (or1 (idsP x.f_Id y.f_Id) 0))))
end Go.Q.Yz

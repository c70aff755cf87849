/- A part of the proof of statements of this seat: lemmas, no statement of their own. -/
import Derived.Test.YtidhlagdagbggaaGreatQStr
set_option linter.unusedVariables false
set_option linter.unusedSimpArgs false
namespace Go.Q
theorem SlcAt.ext {h h' : Heap} {s : Slc} {vs : List Value} (a : SlcAt h s vs) (X : Ext h.size h h') : SlcAt h' s vs := ⟨a.1, fun b hb j w hj => X.cellAt (a.2 b hb j w hj)⟩
/-- a part of a block -/
theorem Blk.part {h : Heap} {b E o n : Nat} {cs ys : List Value} (k : Blk h b cs E) (hd : (cs.drop o).take n = ys) : CellsAt h ⟨b, o, none⟩ ys := by
  intro j v hj
  rw [add_mk, k.cell]
  rw [← hd, List.getElem?_take] at hj
  split at hj
  · rw [List.getElem?_drop] at hj; exact hj
  · cases hj
theorem Blk.slc {h : Heap} {b E o n m c : Nat} {cs ys : List Value} (k : Blk h b cs E) (hd : (cs.drop o).take n = ys) : SlcAt h ⟨some ⟨b, o, none⟩, m, c⟩ ys :=
  ⟨(fun hn => by cases hn), fun a ha j v hj => by cases ha; exact k.part hd j v hj⟩
/-- a row of structs in memory -/
structure LsAt {α : Type} (cs : α → List Value) (w : Nat) (h : Heap) (s : Slc) (xs : List α) : Prop where
  l : s.len = xs.length
  at' : ∀ (i : Nat) x, xs[i]? = some x → ∃ a, s.a = some a ∧ CellsAt h (a.add (i * w)) (cs x)
theorem CellsAt.ext {h h' : Heap} {a : Addr} {vs : List Value} (c : CellsAt h a vs) (X : Ext h.size h h') : CellsAt h' a vs := fun j v hj => X.cellAt (c j v hj)
theorem LsAt.ext {α : Type} {cs : α → List Value} {w : Nat} {h h' : Heap} {s : Slc} {xs : List α} (L : LsAt cs w h s xs) (X : Ext h.size h h') : LsAt cs w h' s xs :=
  ⟨L.l, fun i x hx => by obtain ⟨a, h1, h2⟩ := L.at' i x hx; exact ⟨a, h1, h2.ext X⟩⟩
end Go.Q

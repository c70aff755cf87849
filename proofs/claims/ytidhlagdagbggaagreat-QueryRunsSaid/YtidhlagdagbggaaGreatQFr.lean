/- A part of the proof of statements of this seat: lemmas, no statement of their own. -/
import Derived.Test.YtidhlagdagbggaaGreatQSem
/- Frames. -/
namespace Go.Q
set_option linter.unusedVariables false
set_option linter.unusedSimpArgs false
/-- whatever but the row's block is as it was -/
structure Frm (s : Slc) (h h' : Heap) : Prop where
  size : h.size ≤ h'.size
  block : ∀ g, g < h.size → s.blk ≠ some g → h'[g]? = h[g]?
theorem Frm.trans {s : Slc} {a b c : Heap} (p : Frm s a b) (q : Frm s b c) : Frm s a c := ⟨Nat.le_trans p.size q.size, fun g hg hs => (q.block g (Nat.lt_of_lt_of_le hg p.size) hs).trans (p.block g hg hs)⟩
theorem Blk.unlike {h : Heap} {a b E E' : Nat} {xs ys : List Value} (p : Blk h a xs E) (q : Blk h b ys E') (hE : E ≠ E') : a ≠ b := fun e => by
  subst e
  unfold Blk at p q
  obtain ⟨_, _, p1, _⟩ := p
  obtain ⟨_, _, q1, _⟩ := q
  rw [p1] at q1; cases q1; exact hE rfl
theorem Row.unlike {h : Heap} {B a E w E' : Nat} {s : Slc} {xs ys : List Value} (R : Row B h E w s xs) (q : Blk h a ys E') (hE : E ≠ E') : s.blk ≠ some a := fun e => by
  rcases R.2.2 with ⟨k, _⟩ | ⟨g, cur, a1, a2, a3, _⟩
  · simp [Slc.blk, k] at e
  · simp [Slc.blk, a1] at e
    subst e
    exact Blk.unlike a3 q hE rfl
end Go.Q

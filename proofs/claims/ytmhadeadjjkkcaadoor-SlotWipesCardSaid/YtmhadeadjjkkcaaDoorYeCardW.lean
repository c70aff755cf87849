/- A part of the proof of statements of this seat: lemmas, no statement of their own. -/
import Derived.Test.YtmhadeadjjkkcaaDoorYeTbl
import Derived.Test.YtmhadeadjjkkcaaDoorYeW3
import Derived.Test.YtmhadeadjjkkcaaDoorQOpen
/- All that SlotWhole's card needs. -/
namespace Go.Q.Ye
theorem Rws.of {h : Heap} {s : Slc} {ys : List Slc} (L : LsAt (fun s : Slc => [Slc.v s]) 1 h s ys) (o : ∀ y ∈ ys, y.len ≤ y.cap ∧ y.cap ≤ maxLen ∧ ∃ zs, SlI .u8 h y zs) : ∃ bss, Rws h s bss ys := by
  have : ∀ (l : List Slc), (∀ y ∈ l, y.len ≤ y.cap ∧ y.cap ≤ maxLen ∧ ∃ zs, SlI .u8 h y zs) → ∃ bss : List (List Int), l.length = bss.length ∧ ∀ (i : Nat) y bs, l[i]? = some y → bss[i]? = some bs → SlcAt h y (b8 bs) ∧ y.len = bs.length ∧ y.len ≤ y.cap ∧ isB bs := fun l => by
    induction l with
    | nil => exact fun _ => ⟨[], rfl, fun i y bs hi => by simp at hi⟩
    | cons y r ih =>
      intro o
      obtain ⟨bss, e, k⟩ := ih fun y hy => o y (List.mem_cons_of_mem _ hy)
      obtain ⟨q1, q2, zs, z1, z2, z3⟩ := o y (by simp)
      refine ⟨zs :: bss, by simp [e], fun i y' bs hi hb => ?_⟩
      cases i with
      | zero => simp at hi hb; subst hi; subst hb; exact ⟨z2, z1, q1, isB_wf z3⟩
      | succ i => exact k i y' bs (by simpa using hi) (by simpa using hb)
  obtain ⟨bss, e, k⟩ := this ys o
  refine ⟨bss, L.l, e, fun i y hy => ?_, k⟩
  obtain ⟨a, ha, hc⟩ := L.at' i y hy
  refine ⟨a, ha, ?_⟩
  have := hc 0 _ rfl
  rw [Addr.add_zero'] at this
  exact this
end Go.Q.Ye

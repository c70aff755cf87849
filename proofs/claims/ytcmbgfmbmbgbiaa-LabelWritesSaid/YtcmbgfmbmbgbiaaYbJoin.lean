/- A part of the proof of statements of this seat: lemmas, no statement of their own. -/
import Derived.Test.YtcmbgfmbmbgbiaaYbLay
import Derived.Test.YtcmbgfmbmbgbiaaYbTab
import Derived.Test.YtcmbgfmbmbgbiaaYbLabA
import Derived.Test.YtcmbgfmbmbgbiaaQLs
import Derived.Below
set_option linter.unusedVariables false
set_option linter.unusedSimpArgs false
namespace Go.Q
/-- a contract of the kit's, at every world of a heap -/
theorem CallsH.of_below {P : Program} {f : FuncId} {args : Array Value} {h : Heap} {v : Value} (H : ∀ w, w.heap = h → Calls P f args w fun e w' => e = .returned v ∧ Go.RowKit.Below w.heap.size w w') : CallsH P f args h fun v' h' => v' = v ∧ Ext h.size h h' :=
  fun w hw => (H w hw).mono fun r w' ⟨e, B⟩ => ⟨v, e, ⟨B.os, B.tape, B.output, rfl⟩, rfl, by subst hw; exact ⟨B.size, B.block⟩⟩
end Go.Q
namespace Go.Q.Yb
open Go.Proofs
def joinB (xs : List ByteArray) (sep : ByteArray) : ByteArray := ⟨(Lib.join (xs.map (·.data.toList)) sep.data.toList).toArray⟩
/-- strings.Join, by the kit's contract -/
def strings_Join (s : Slc) (sep : ByteArray) (k : ByteArray → Heap → Prop) (h : Heap) : Prop :=
  ∃ xs : List ByteArray, LsAt (fun x => [Value.string x]) 1 h s xs ∧ s.len ≤ s.cap ∧ 0 < s.len ∧ s.len ≤ 140737488355328 ∧ (∀ a, s.a = some a → a.spot = none) ∧ (joinB xs sep).size ≤ 140737488355328 ∧ ∀ h', Ext h.size h h' → k (joinB xs sep) h'
theorem strings_Join_ok : CallOk Try.prog 179 := ⟨_, Try.func179, by kernel_rfl, by kernel_rfl⟩
theorem strings_Join_ref (s : Slc) (sep : ByteArray) (k : ByteArray → Heap → Prop) (h : Heap) (H : strings_Join s sep k h) : CallsH Try.prog 179 #[Slc.v s, .string sep] h (fun v h' => ∃ r : ByteArray, v = .string r ∧ k r h') := by
  obtain ⟨xs, L, hc, h0, hn, ha, hj, H⟩ := H
  obtain ⟨x0, hx0⟩ : ∃ x, xs[0]? = some x := by
    have := L.l
    exact ⟨xs[0]'(by omega), by simp⟩
  obtain ⟨a, hsa, ca⟩ := L.at' 0 x0 hx0
  have hlt : a.block < h.size := by
    have := cellH_lt (ca 0 _ rfl)
    simpa using this
  have hd := ha a hsa
  obtain ⟨sa, sl, sc⟩ := s
  cases hsa
  obtain ⟨b, o, d⟩ := a
  cases hd
  have sl' : sl = xs.length := L.l
  subst sl'
  refine (CallsH.of_below (v := .string (joinB xs sep)) fun w hw => ?_).mono fun v h' ⟨e, X⟩ => ⟨_, e, H _ X⟩
  subst hw
  refine Go.Proofs.Any.strings_Join Try.lays156 Try.Builder_Extra_156 b o sc xs sep w (fun j x hx => ?_) hlt hn hc (by unfold joinB at hj; simpa [ByteArray.size] using hj)
  obtain ⟨a', e', c'⟩ := L.at' j x hx
  cases e'
  have := c' 0 _ rfl
  rw [add_mk, add_mk, Nat.mul_one, Nat.add_zero] at this
  exact this
end Go.Q.Yb

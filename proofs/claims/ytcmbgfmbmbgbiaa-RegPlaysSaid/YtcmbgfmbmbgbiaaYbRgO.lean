/- A part of the proof of statements of this seat: lemmas, no statement of their own. -/
import Derived.Test.YtcmbgfmbmbgbiaaYbRgLx
import Derived.Test.YtcmbgfmbmbgbiaaYbOpenC
set_option linter.unusedVariables false
set_option linter.unusedSimpArgs false
namespace Go.Q.Yb
theorem CmdAt.arg {h : Heap} {c : S_api_Command} (o : Ok_S_api_Command h c) : ∃ wr, CmdAt h c wr := by
  obtain ⟨_, _, ep, _, ⟨_, _, wr, wl, ws, wb⟩, hz⟩ := o
  exact ⟨wr, ⟨ws, wl, wf_isB wb, wf_u32 ep, wf_i64 hz⟩⟩
theorem Cmds.of {W : Heap} {s : Slc} {ys : List S_api_Command} (L : LsAt S_api_Command.cs 17 W s ys) (hm : s.len ≤ maxLen) (o : ∀ y ∈ ys, Ok_S_api_Command W y) : ∃ l, Cmds W s l := by
  have : ∀ ys : List S_api_Command, (∀ y ∈ ys, Ok_S_api_Command W y) → ∃ l : List (S_api_Command × List Int), l.map (·.1) = ys ∧ ∀ p ∈ l, CmdAt W p.1 p.2 := fun ys => by
    induction ys with
    | nil => exact fun _ => ⟨[], rfl, fun p hp => by simp at hp⟩
    | cons y r ih =>
      intro o
      obtain ⟨l, h1, h2⟩ := ih fun z hz => o z (List.mem_cons_of_mem _ hz)
      obtain ⟨wr, A⟩ := CmdAt.arg (o y (by simp))
      refine ⟨(y, wr) :: l, by simp [h1], fun p hp => ?_⟩
      rcases List.mem_cons.1 hp with rfl | hp
      · exact A
      · exact h2 p hp
  obtain ⟨l, h1, h2⟩ := this ys o
  exact ⟨l, by rw [h1]; exact L, h2, hm⟩
theorem Apart_all {W : Heap} {s : Slc} {ys : List S_api_Command} {a b : S_api_Command} {k : Bool → Heap → Prop} (L : LsAt S_api_Command.cs 17 W s ys) (hm : s.len ≤ maxLen) (o : ∀ y ∈ ys, Ok_S_api_Command W y)
    (oa : Ok_S_api_Command W a) (ob : Ok_S_api_Command W b) (H : ∀ h', Ext W.size W h' → k true h') : law25_RegApart s a b k W := by
  obtain ⟨l, S⟩ := Cmds.of L hm o
  obtain ⟨wa, A⟩ := CmdAt.arg oa
  obtain ⟨wb, B⟩ := CmdAt.arg ob
  exact Apart_ok S A B H
end Go.Q.Yb

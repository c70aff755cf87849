/- A part of the proof of statements of this seat: lemmas, no statement of their own. -/
import Derived.Test.YthjafnfadiijgaaYhMm
import Derived.Test.YthjafnfadiijgaaYhOpen
import Derived.Test.YthjafnfadiijgaaQSt
import Derived.Test.YthjafnfadiijgaaQZa
set_option linter.unusedVariables false
set_option linter.unusedSimpArgs false
/- RaftForms, as it is called. -/
namespace Go.Q.Yh
theorem ents_of {h : Heap} {vs : List S_api_Entry} (o : ∀ y ∈ vs, Ok_S_api_Entry h y) : ∃ es : List Ent, vs.length = es.length ∧ (∀ (i : Nat) v e, vs[i]? = some v → es[i]? = some e → v.f_Term = e.1 ∧ SlcAt h v.f_Cmd (b8 e.2) ∧ v.f_Cmd.len = e.2.length) ∧ ∀ e ∈ es, (0 ≤ e.1 ∧ e.1 < 18446744073709551616) ∧ isB e.2 := by
  obtain ⟨es, hl, hz⟩ := choose_list (R := fun i (e : Ent) => ∀ v, vs[i]? = some v → (v.f_Term = e.1 ∧ SlcAt h v.f_Cmd (b8 e.2) ∧ v.f_Cmd.len = e.2.length) ∧ (0 ≤ e.1 ∧ e.1 < 18446744073709551616) ∧ isB e.2) vs.length fun i hi => by
    obtain ⟨tw, _, _, zs, zl, zc, zb⟩ := o vs[i] (List.getElem_mem hi)
    refine ⟨(vs[i].f_Term, zs), fun v hv => ?_⟩
    rw [List.getElem?_eq_getElem hi] at hv; cases hv
    exact ⟨⟨rfl, zc, zl⟩, wf_u64 tw, wf_isB zb⟩
  refine ⟨es, hl.symm, fun i v e hv he => (hz i e he v hv).1, fun e he => ?_⟩
  obtain ⟨i, hi⟩ := List.getElem?_of_mem he
  have hi2 : i < vs.length := by have := (List.getElem?_eq_some_iff.1 hi).1; omega
  exact (hz i e hi vs[i] (by simp)).2
theorem MsgAt.of {h : Heap} {m : S_api_Msg} (o : Ok_S_api_Msg h m) : ∃ vs es snap, MsgAt h m vs es snap := by
  obtain ⟨_, r1, r2, r3, r4, _, ⟨_, _, vs, L, ov⟩, ⟨_, _, snap, sl, ss, sb⟩⟩ := o
  obtain ⟨es, el, en, er⟩ := ents_of ov
  exact ⟨vs, es, snap, ⟨L, el, en, er, ss, sl, wf_isB sb, wf_u64 r1, wf_u64 r2, wf_u64 r3, wf_u64 r4⟩⟩
theorem RaftForms_all {m : S_api_Msg} {s : Slc} {z : List Int} {k : Bool → Heap → Prop} {h : Heap} (o : Ok_S_api_Msg h m) (S : SlcAt h s (z.map (Value.int .u8))) (hl : s.len = z.length) (hc : s.len ≤ s.cap) (wz : ∀ n ∈ z, (Lit.int .u8 n).wf = true) (H : ∀ h', Ext h.size h h' → k true h') : law26_RaftForms m s k h := by
  have o' := o
  obtain ⟨_, _, _, _, _, _, ⟨c1, c2, _⟩, _⟩ := o'
  obtain ⟨vs, es, snap, A⟩ := MsgAt.of o
  have := A.ls.l
  have := A.el
  simp only [maxLen] at c2
  exact RaftForms_ok A (by omega) S hl hc (wf_isB wz) H
end Go.Q.Yh

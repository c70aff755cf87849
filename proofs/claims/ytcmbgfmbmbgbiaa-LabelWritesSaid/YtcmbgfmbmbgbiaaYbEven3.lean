/- A part of the proof of statements of this seat: lemmas, no statement of their own. -/
import Derived.Test.YtcmbgfmbmbgbiaaYbEven2
import Derived.Test.YtcmbgfmbmbgbiaaYbOpen
set_option linter.unusedVariables false
set_option linter.unusedSimpArgs false
namespace Go.Q
open Go.ChangeShapes Go.WideShapes
theorem okWide_st {P : Program} {W : World} {r : Reach} {b0 : Nat} {t : TypeId} {fs : Array Field} {v : Value} (ht : P.underlying t = some (.struct fs)) (hval : Value.okWide P W r b0 t v) : ∃ cs, v = .agg cs := by
  simp only [Value.okWide, ht] at hval
  obtain ⟨cs, h, _⟩ := hval
  exact ⟨cs, h⟩
theorem agg_eq {c : Array Value} {l : List Value} (h : (Value.agg c).cells.toList = l) : c = l.toArray := by
  apply Array.toList_inj.1
  exact h
namespace Yb
theorem CmdAt.of {h : Heap} {c : S_api_Command} (o : Ok_S_api_Command h c) : ∃ wr, CmdAt h c wr ∧ isB c.f_Nonce := by
  obtain ⟨_, _, ep, ⟨_, nb⟩, ⟨_, _, wr, wl, ws, wb⟩, hz⟩ := o
  have h1 := wf_u32 ep
  have h2 := wf_i64 hz
  exact ⟨wr, ⟨ws, wl, wf_isB wb, h1, h2⟩, wf_isB nb⟩
theorem ents_of {h : Heap} {vs : List S_api_Entry} (o : ∀ y ∈ vs, Ok_S_api_Entry h y) : ∃ es : List Ent, vs.length = es.length ∧ (∀ (i : Nat) v e, vs[i]? = some v → es[i]? = some e → v.f_Term = e.1 ∧ SlcAt h v.f_Cmd (b8 e.2) ∧ v.f_Cmd.len = e.2.length) ∧ ∀ e ∈ es, (0 ≤ e.1 ∧ e.1 < 18446744073709551616) ∧ isB e.2 := by
  obtain ⟨es, hl, hz⟩ := choose_list (R := fun i (e : Ent) => ∀ v, vs[i]? = some v → (v.f_Term = e.1 ∧ SlcAt h v.f_Cmd (b8 e.2) ∧ v.f_Cmd.len = e.2.length) ∧ (0 ≤ e.1 ∧ e.1 < 18446744073709551616) ∧ isB e.2) vs.length fun i hi => by
    obtain ⟨tw, _, _, zs, zl, zc, zb⟩ := o vs[i] (List.getElem_mem hi)
    refine ⟨(vs[i].f_Term, zs), fun v hv => ?_⟩
    rw [List.getElem?_eq_getElem hi] at hv; cases hv
    exact ⟨⟨rfl, zc, zl⟩, wf_u64 tw, wf_isB zb⟩
  refine ⟨es, hl.symm, fun i v e hv he => (hz i e he v hv).1, fun e he => ?_⟩
  obtain ⟨i, hi⟩ := List.getElem?_of_mem he
  have hi2 : i < vs.length := by have := (List.getElem?_eq_some_iff.1 hi).1; omega
  exact (hz i e hi vs[i] (by simp)).2
theorem MsgAt.of {h : Heap} {m : S_api_Msg} (o : Ok_S_api_Msg h m) : ∃ vs es snap, MsgAt h m vs es snap := by
  obtain ⟨_, r1, r2, r3, r4, _, ⟨_, _, vs, L, ov⟩, ⟨_, _, snap, sl, ss, sb⟩⟩ := o
  obtain ⟨es, el, en, er⟩ := ents_of ov
  exact ⟨vs, es, snap, ⟨L, el, en, er, ss, sl, wf_isB sb, wf_u64 r1, wf_u64 r2, wf_u64 r3, wf_u64 r4⟩⟩
theorem NoteAt.of {h : Heap} {n : S_api_Note} (o : Ok_S_api_Note h n) : ∃ ps ids wr vs es snap, NoteAt h n ps ids wr vs es snap := by
  obtain ⟨_, r1, r2, _, _, ⟨_, _, ps, pa, po⟩, _, oc, r3, ⟨_, _, ids, ia, io⟩, _, om⟩ := o
  obtain ⟨wr, C, nb⟩ := CmdAt.of oc
  obtain ⟨vs, es, snap, M⟩ := MsgAt.of om
  refine ⟨ps, ids, wr, vs, es, snap, ⟨pa, ia, C, M, wf_u64 r1, wf_u64 r2, wf_u64 r3, fun p hp => ?_, nb, fun x hx => ?_⟩⟩
  · obtain ⟨_, _, _, i1, i2⟩ := po p hp
    exact ⟨(wf_u64 i1).1, (wf_u16 i2).1, (wf_u16 i2).2, (wf_u64 i1).2⟩
  · obtain ⟨i1, i2⟩ := io x hx
    exact ⟨(wf_u64 i1).1, (wf_u16 i2).1, (wf_u16 i2).2, (wf_u64 i1).2⟩
theorem Even_all {n : S_api_Note} {p1 : Slc} {zs : List Int} {k : Bool → Heap → Prop} {h : Heap} (o : Ok_S_api_Note h n) (V : SlcAt h p1 (zs.map (Value.int .i64))) (vl : p1.len = zs.length) (H : ∀ h', Ext h.size h h' → k true h') : law27_PackEven n p1 k h := by
  obtain ⟨ps, ids, wr, vs, es, snap, A⟩ := NoteAt.of o
  exact Even_ok A V vl H
end Yb
end Go.Q

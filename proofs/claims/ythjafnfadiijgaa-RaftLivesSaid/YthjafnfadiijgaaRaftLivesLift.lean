/- Whatever members did, and whatever letters were lost or came again: when then all letters come and all tick, one leads before long, what is proposed to it is committed by all, and all have the same: RaftLives answers true at every input. -/
import Derived.Test.YthjafnfadiijgaaRows
import Derived.WalkKit
import Derived.ProofKit
import Derived.OpenShut
import Derived.ShutString
import Derived.ChangeOld
import Derived.Below
import Derived.SizedLaws
import Derived.Test.YthjafnfadiijgaaYiZbl
namespace Go.Proofs.Ythjafnfadiijgaa.raftLives
open Go.ChangeShapes Go.WideShapes Go.ChangeAt Go.RowKit
open Go.ChangeMaps (open_string shut_string)
set_option linter.unusedVariables false
theorem own : ownKnob Try.prog.godebug = none := by kernel_rfl
theorem laidOut : laidOutB Try.prog = true := by kernel_rfl
/-- the law, called with arguments that are there: it answers true, and writes nothing that was there -/
theorem walk (a0 : Int) (s1 : Go.Q.Slc) (w : World) (w0 : (Lit.int .u8 a0).wf = true) (w1 : s1.len ≤ s1.cap ∧ s1.cap ≤ maxLen ∧ ∃ ys : List Go.Q.Yi.S_quaestorlaw26_Act, Go.Q.LsAt Go.Q.Yi.S_quaestorlaw26_Act.cs 3 w.heap s1 ys ∧ ∀ y ∈ ys, Go.Q.Yi.Ok_S_quaestorlaw26_Act w.heap y) :
    Calls Try.prog 5 #[.int .u8 a0, Go.Q.Slc.v s1] w fun e w' => e = .returned (.bool true) ∧ Below w.heap.size w w' := by
  obtain ⟨_, _, ys, A, o⟩ := w1
  exact Go.Q.law_calls ((Go.Q.Yi.law26_RaftLives_ref _ _ _ _ (Go.Q.Yi.RaftLives_ok (Go.Q.wf_u8 w0) A fun h' X => ⟨rfl, X⟩)).mono fun v h' ⟨r, e, k⟩ => ⟨r, e, k⟩)
set_option maxRecDepth 100000 in
theorem lifted (os : Os) (started : os.Started) (H : Type) (enc : TypeId × Value → H) :
    ReturnsInHanded {} Try.checked os 5 .any (Rows.raftLivesSpec.pre6 enc Try.prog Try.f5 Rows.raftLivesRow.domain false) (Rows.raftLivesSpec.post enc Try.prog Try.f5 false true false false) := by
  refine returnsInHanded_of_change (C := Try.checked) own started (by kernel_rfl) Try.func5
    (ChangeSpec.witness6 (enc := enc) (C := Try.checked) false ⟨#[], #[.int .u8 0, .slice none 0 0], []⟩ 8 (by kernel_rfl) (by kernel_rfl) (by kernel_rfl) (by kernel_rfl)) ?_
  intro W base args ds gs before hval0 hW hcnd _
  have hval : ∀ (j : Nat) t v, Try.f5.params[j]? = some t → args[j]? = some v → Value.okWide Try.prog W .any base t v := hval0
  have hW' := hW
  obtain ⟨p, q, hA0, hV, rfl, hfz, hnd⟩ := hW
  have hA : DataW.TrodAll enc Try.prog W 0 (fun _ => true) true Try.f5.params.toList args.toList ds p := hA0
  rw [Try.params5] at hA hval
  obtain ⟨v0, vs0, d0, ds0, p0, q0, hargs, rfl, rfl, h0, r0⟩ := trodAll_cons hA
  obtain ⟨v1, vs1, d1, ds1, p1, q1, rfl, rfl, rfl, h1, r1⟩ := trodAll_cons r0
  obtain ⟨rfl, rfl, rfl⟩ := trodAll_nil r1
  obtain rfl : args = #[v0, v1] := by cases args; simp_all
  obtain ⟨rfl, rfl⟩ := trodVars_none hV
  obtain ⟨a0, rfl, rfl, rfl, w0⟩ := open_int Try.underlying5 (hval 0 5 v0 rfl rfl) h0
  have k1 := h1
  have lt1 : ∀ x ∈ p1, x.block < W.heap.size := by obtain ⟨m, hm⟩ := k1; exact DataW.trod_lt m _ _ _ hm
  obtain ⟨a1, len1, cap1, rfl⟩ := okWide_slice Try.underlying47 (hval 1 47 v1 rfl rfl)
  obtain ⟨fuel1, hf1⟩ := h1
  obtain ⟨s1, hs1, l1, m1, w1⟩ := Go.Q.open_ls (cs := Go.Q.Yi.S_quaestorlaw26_Act.cs) (w' := 3) Try.underlying47 (by kernel_rfl) (fun hq => Go.Q.Yi.open_S_quaestorlaw26_Act hq) hf1
  simp [Value.cells, Go.Q.Slc.v] at hs1
  obtain ⟨rfl, rfl, rfl⟩ := hs1
  clear hA0 hval0
  refine (walk a0 s1 W w0 ⟨l1, m1, w1⟩).mono fun e W' ⟨he, bel⟩ => ?_
  subst he
  exact ⟨_, rfl, _, _, _, [], _, [], hW', trodAll_mk1 (shut_bool Try.underlying4 _), (trodAll_cons_mk (shut_int Try.underlying5 w0) (trodAll_cons_mk (Below.trod laidOut (by kernel_rfl) (of_decide_eq_true (by kernel_rfl)) k1 bel lt1) trodAll_mk0)), rfl, bel.frame _, fun h => by cases h⟩
end Go.Proofs.Ythjafnfadiijgaa.raftLives

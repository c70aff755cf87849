/- Whatever is started, answered and waited for at a desk is told as the document's desk tells it: QuorumPlays answers true at every input. -/
import Derived.Test.YtgbbpanapnkdbaaGreatRows
import Derived.WalkKit
import Derived.ProofKit
import Derived.OpenShut
import Derived.ShutString
import Derived.ChangeOld
import Derived.Below
import Derived.SizedLaws
import Derived.Test.YtgbbpanapnkdbaaGreatYqZbh
namespace Go.Proofs.YtgbbpanapnkdbaaGreat.quorumPlays
open Go.ChangeShapes Go.WideShapes Go.ChangeAt Go.RowKit
open Go.ChangeMaps (open_string shut_string)
set_option linter.unusedVariables false
theorem own : ownKnob Tryz.prog.godebug = none := by kernel_rfl
theorem laidOut : laidOutB Tryz.prog = true := by kernel_rfl
/-- the law, called with arguments that are there: it answers true, and writes nothing that was there -/
theorem walk (s0 : Go.Q.Slc) (w : World) (w0 : s0.len ≤ s0.cap ∧ s0.cap ≤ maxLen ∧ ∃ ys : List Go.Q.Yq.S_quaestorlaw31_Act, Go.Q.LsAt Go.Q.Yq.S_quaestorlaw31_Act.cs 38 w.heap s0 ys ∧ ∀ y ∈ ys, Go.Q.Yq.Ok_S_quaestorlaw31_Act w.heap y) :
    Calls Tryz.prog 4 #[Go.Q.Slc.v s0] w fun e w' => e = .returned (.bool true) ∧ Below w.heap.size w w' := by
  exact Go.Q.law_calls ((Go.Q.Yq.law31_QuorumPlays_ref _ _ _ (Go.Q.Yq.plays_all w0.2.2 fun h' X => ⟨rfl, X⟩)).mono fun v h' ⟨r, e, k⟩ => ⟨r, e, k⟩)
set_option maxRecDepth 100000 in
theorem lifted (os : Os) (started : os.Started) (H : Type) (enc : TypeId × Value → H) :
    ReturnsInHanded {} Tryz.checked os 4 .any (Rows.quorumPlaysSpec.pre6 enc Tryz.prog Tryz.f4 Rows.quorumPlaysRow.domain false) (Rows.quorumPlaysSpec.post enc Tryz.prog Tryz.f4 false true false false) := by
  refine returnsInHanded_of_change_sized (C := Tryz.checked) own started (by kernel_rfl) Tryz.func4
    (ChangeSpec.witness6 (enc := enc) (C := Tryz.checked) false ⟨#[], #[.slice none 0 0], []⟩ 8 (by kernel_rfl) (by kernel_rfl) (by kernel_rfl) (by kernel_rfl)) ?_
  intro W base args ds gs before hval0 hW hcnd hsz _
  have hval : ∀ (j : Nat) t v, Tryz.f4.params[j]? = some t → args[j]? = some v → Value.okWide Tryz.prog W .any base t v := hval0
  have hW' := hW
  obtain ⟨p, q, hA0, hV, rfl, hfz, hnd⟩ := hW
  have hA : DataW.TrodAll enc Tryz.prog W 0 (fun _ => true) true Tryz.f4.params.toList args.toList ds p := hA0
  rw [Tryz.params4] at hA hval
  obtain ⟨v0, vs0, d0, ds0, p0, q0, hargs, rfl, rfl, h0, r0⟩ := trodAll_cons hA
  obtain ⟨rfl, rfl, rfl⟩ := trodAll_nil r0
  obtain rfl : args = #[v0] := by cases args; simp_all
  obtain ⟨rfl, rfl⟩ := trodVars_none hV
  have k0 := h0
  have lt0 : ∀ x ∈ p0, x.block < W.heap.size := by obtain ⟨m, hm⟩ := k0; exact DataW.trod_lt m _ _ _ hm
  obtain ⟨a0, len0, cap0, rfl⟩ := okWide_slice Tryz.underlying22 (hval 0 22 v0 rfl rfl)
  obtain ⟨fuel0, hf0⟩ := h0
  have wt0 : Go.Q.WtOk Tryz.prog 22 d0 := fun n hn => by simpa using List.all_eq_true.1 hsz n (DataW.weights_mem_each (j := 0) (t := 22) (d := d0) (by rw [Tryz.params4]; rfl) rfl n hn)
  obtain ⟨s0, hs0, l0, m0, _, w0⟩ := Go.Q.open_lsw (cs := Go.Q.Yq.S_quaestorlaw31_Act.cs) (w' := 38) Tryz.underlying22 (by kernel_rfl) (fun hW hq => Go.Q.Yq.open_S_quaestorlaw31_Act hW hq) wt0 hf0
  simp [Value.cells, Go.Q.Slc.v] at hs0
  obtain ⟨rfl, rfl, rfl⟩ := hs0
  clear hA0 hval0
  refine (walk s0 W ⟨l0, m0, w0⟩).mono fun e W' ⟨he, bel⟩ => ?_
  subst he
  exact ⟨_, rfl, _, _, _, [], _, [], hW', trodAll_mk1 (shut_bool Tryz.underlying4 _), (trodAll_cons_mk (Below.trod laidOut (by kernel_rfl) (of_decide_eq_true (by kernel_rfl)) k0 bel lt0) trodAll_mk0), rfl, bel.frame _, fun h => by cases h⟩
end Go.Proofs.YtgbbpanapnkdbaaGreat.quorumPlays

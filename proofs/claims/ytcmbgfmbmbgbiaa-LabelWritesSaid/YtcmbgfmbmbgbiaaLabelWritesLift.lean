/- Which series may be is what the document says; of those the texts are its, and are read as they were; unlike ones have unlike texts; of at most 20 labels, 100 bytes. -/
import Derived.Test.YtcmbgfmbmbgbiaaRows
import Derived.WalkKit
import Derived.ProofKit
import Derived.OpenShut
import Derived.ShutString
import Derived.ChangeOld
import Derived.Below
import Derived.Test.YtcmbgfmbmbgbiaaYbLabJ
namespace Go.Proofs.Ytcmbgfmbmbgbiaa.labelWrites
open Go.ChangeShapes Go.WideShapes Go.ChangeAt Go.RowKit
open Go.ChangeMaps (open_string shut_string)
set_option linter.unusedVariables false
theorem own : ownKnob Try.prog.godebug = none := by kernel_rfl
theorem laidOut : laidOutB Try.prog = true := by kernel_rfl
/-- the law, called with arguments that are there: it answers true, and writes nothing that was there -/
theorem walk (n0 : Go.Q.Yb.S_api_Series) (n1 : Go.Q.Yb.S_api_Series) (w : World) (w0 : Go.Q.Yb.Ok_S_api_Series w.heap n0) (w1 : Go.Q.Yb.Ok_S_api_Series w.heap n1) :
    Calls Try.prog 8 #[.agg (Go.Q.Yb.S_api_Series.cs n0).toArray, .agg (Go.Q.Yb.S_api_Series.cs n1).toArray] w fun e w' => e = .returned (.bool true) ∧ Below w.heap.size w w' := by
  exact Go.Q.law_calls ((Go.Q.Yb.law15_LabelWrites_ref _ _ _ _ (Go.Q.Yb.LWrites_all w0 w1 fun h' X => ⟨rfl, X⟩)).mono fun v h' ⟨r, e, k⟩ => ⟨r, e, k⟩)
set_option maxRecDepth 100000 in
theorem lifted (os : Os) (started : os.Started) (H : Type) (enc : TypeId × Value → H) :
    ReturnsInHanded {} Try.checked os 8 .any (Rows.labelWritesSpec.pre6 enc Try.prog Try.f8 Rows.labelWritesRow.domain false) (Rows.labelWritesSpec.post enc Try.prog Try.f8 false true false false) := by
  refine returnsInHanded_of_change (C := Try.checked) own started (by kernel_rfl) Try.func8
    (ChangeSpec.witness6 (enc := enc) (C := Try.checked) false ⟨#[], #[.agg #[.string ByteArray.empty, .slice none 0 0], .agg #[.string ByteArray.empty, .slice none 0 0]], []⟩ 8 (by kernel_rfl) (by kernel_rfl) (by kernel_rfl) (by kernel_rfl)) ?_
  intro W base args ds gs before hval0 hW hcnd _
  have hval : ∀ (j : Nat) t v, Try.f8.params[j]? = some t → args[j]? = some v → Value.okWide Try.prog W .any base t v := hval0
  have hW' := hW
  obtain ⟨p, q, hA0, hV, rfl, hfz, hnd⟩ := hW
  have hA : DataW.TrodAll enc Try.prog W 0 (fun _ => true) true Try.f8.params.toList args.toList ds p := hA0
  rw [Try.params8] at hA hval
  obtain ⟨v0, vs0, d0, ds0, p0, q0, hargs, rfl, rfl, h0, r0⟩ := trodAll_cons hA
  obtain ⟨v1, vs1, d1, ds1, p1, q1, rfl, rfl, rfl, h1, r1⟩ := trodAll_cons r0
  obtain ⟨rfl, rfl, rfl⟩ := trodAll_nil r1
  obtain rfl : args = #[v0, v1] := by cases args; simp_all
  obtain ⟨rfl, rfl⟩ := trodVars_none hV
  have k0 := h0
  have lt0 : ∀ x ∈ p0, x.block < W.heap.size := by obtain ⟨m, hm⟩ := k0; exact DataW.trod_lt m _ _ _ hm
  obtain ⟨c0, rfl⟩ := Go.Q.okWide_st Try.underlying66 (hval 0 66 v0 rfl rfl)
  obtain ⟨fuel0, hf0⟩ := h0
  obtain ⟨n0, hn0, w0⟩ := Go.Q.Yb.open_S_api_Series hf0
  obtain rfl := Go.Q.agg_eq hn0
  have k1 := h1
  have lt1 : ∀ x ∈ p1, x.block < W.heap.size := by obtain ⟨m, hm⟩ := k1; exact DataW.trod_lt m _ _ _ hm
  obtain ⟨c1, rfl⟩ := Go.Q.okWide_st Try.underlying66 (hval 1 66 v1 rfl rfl)
  obtain ⟨fuel1, hf1⟩ := h1
  obtain ⟨n1, hn1, w1⟩ := Go.Q.Yb.open_S_api_Series hf1
  obtain rfl := Go.Q.agg_eq hn1
  clear hA0 hval0
  refine (walk n0 n1 W w0 w1).mono fun e W' ⟨he, bel⟩ => ?_
  subst he
  exact ⟨_, rfl, _, _, _, [], _, [], hW', trodAll_mk1 (shut_bool Try.underlying4 _), (trodAll_cons_mk (Below.trod laidOut (by kernel_rfl) (of_decide_eq_true (by kernel_rfl)) k0 bel lt0) (trodAll_cons_mk (Below.trod laidOut (by kernel_rfl) (of_decide_eq_true (by kernel_rfl)) k1 bel lt1) trodAll_mk0)), rfl, bel.frame _, fun h => by cases h⟩
end Go.Proofs.Ytcmbgfmbmbgbiaa.labelWrites

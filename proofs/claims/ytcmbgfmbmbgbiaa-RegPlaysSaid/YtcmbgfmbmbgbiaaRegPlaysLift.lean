/- The law RegPlays answers true: whatever commands are applied, each is answered as the document says, and the tenants are its; the registry's form is its, and is read as the registry. -/
import Derived.Test.YtcmbgfmbmbgbiaaRows
import Derived.WalkKit
import Derived.ProofKit
import Derived.OpenShut
import Derived.ShutString
import Derived.ChangeOld
import Derived.Below
import Derived.Test.YtcmbgfmbmbgbiaaYbRiG
import Derived.Test.YtcmbgfmbmbgbiaaQSt
namespace Go.Proofs.Ytcmbgfmbmbgbiaa.regPlays
open Go.ChangeShapes Go.WideShapes Go.ChangeAt Go.RowKit
open Go.ChangeMaps (open_string shut_string)
set_option linter.unusedVariables false
theorem own : ownKnob Try.prog.godebug = none := by kernel_rfl
theorem laidOut : laidOutB Try.prog = true := by kernel_rfl
/-- the law, called with arguments that are there: it answers true, and writes nothing that was there -/
theorem walk (s0 : Go.Q.Slc) (c1 : ByteArray) (w : World) (w0 : s0.len ≤ s0.cap ∧ s0.cap ≤ maxLen ∧ ∃ ys : List Go.Q.Yb.S_api_Command, Go.Q.LsAt Go.Q.Yb.S_api_Command.cs 17 w.heap s0 ys ∧ ∀ y ∈ ys, Go.Q.Yb.Ok_S_api_Command w.heap y) (w1 : c1.size ≤ maxLen) :
    Calls Try.prog 18 #[Go.Q.Slc.v s0, .string c1] w fun e w' => e = .returned (.bool true) ∧ Below w.heap.size w w' := by
  obtain ⟨a0, b0, ys0, L0, o0⟩ := w0
  exact Go.Q.law_calls ((Go.Q.Yb.law25_RegPlays_ref _ _ _ _ (Go.Q.Yb.RPlays_all L0 (Nat.le_trans a0 b0) o0 fun h' X => ⟨rfl, X⟩)).mono fun v h' ⟨r, e, k⟩ => ⟨r, e, k⟩)
set_option maxRecDepth 100000 in
theorem lifted (os : Os) (started : os.Started) (H : Type) (enc : TypeId × Value → H) :
    ReturnsInHanded {} Try.checked os 18 .any (Rows.regPlaysSpec.pre6 enc Try.prog Try.f18 Rows.regPlaysRow.domain false) (Rows.regPlaysSpec.post enc Try.prog Try.f18 false true false false) := by
  refine returnsInHanded_of_change (C := Try.checked) own started (by kernel_rfl) Try.func18
    (ChangeSpec.witness6 (enc := enc) (C := Try.checked) false ⟨#[], #[.slice none 0 0, .string ByteArray.empty], []⟩ 8 (by kernel_rfl) (by kernel_rfl) (by kernel_rfl) (by kernel_rfl)) ?_
  intro W base args ds gs before hval0 hW hcnd _
  have hval : ∀ (j : Nat) t v, Try.f18.params[j]? = some t → args[j]? = some v → Value.okWide Try.prog W .any base t v := hval0
  have hW' := hW
  obtain ⟨p, q, hA0, hV, rfl, hfz, hnd⟩ := hW
  have hA : DataW.TrodAll enc Try.prog W 0 (fun _ => true) true Try.f18.params.toList args.toList ds p := hA0
  rw [Try.params18] at hA hval
  obtain ⟨v0, vs0, d0, ds0, p0, q0, hargs, rfl, rfl, h0, r0⟩ := trodAll_cons hA
  obtain ⟨v1, vs1, d1, ds1, p1, q1, rfl, rfl, rfl, h1, r1⟩ := trodAll_cons r0
  obtain ⟨rfl, rfl, rfl⟩ := trodAll_nil r1
  obtain rfl : args = #[v0, v1] := by cases args; simp_all
  obtain ⟨rfl, rfl⟩ := trodVars_none hV
  have k0 := h0
  have lt0 : ∀ x ∈ p0, x.block < W.heap.size := by obtain ⟨m, hm⟩ := k0; exact DataW.trod_lt m _ _ _ hm
  obtain ⟨a0, len0, cap0, rfl⟩ := okWide_slice Try.underlying55 (hval 0 55 v0 rfl rfl)
  obtain ⟨fuel0, hf0⟩ := h0
  obtain ⟨s0, hs0, l0, m0, w0⟩ := Go.Q.open_ls (cs := Go.Q.Yb.S_api_Command.cs) (w' := 17) Try.underlying55 (by kernel_rfl) (fun hq => Go.Q.Yb.open_S_api_Command hq) hf0
  simp [Value.cells, Go.Q.Slc.v] at hs0
  obtain ⟨rfl, rfl, rfl⟩ := hs0
  obtain ⟨c1, rfl, rfl, rfl, w1⟩ := open_string Try.underlying9 (hval 1 9 v1 rfl rfl) h1
  clear hA0 hval0
  refine (walk s0 c1 W ⟨l0, m0, w0⟩ w1).mono fun e W' ⟨he, bel⟩ => ?_
  subst he
  exact ⟨_, rfl, _, _, _, [], _, [], hW', trodAll_mk1 (shut_bool Try.underlying4 _), (trodAll_cons_mk (Below.trod laidOut (by kernel_rfl) (of_decide_eq_true (by kernel_rfl)) k0 bel lt0) (trodAll_cons_mk (shut_string Try.underlying9 w1) trodAll_mk0)), rfl, bel.frame _, fun h => by cases h⟩
end Go.Proofs.Ytcmbgfmbmbgbiaa.regPlays

/- What was synced, and not written since, is there whenever the power goes off; what was written since is as it was, as it was written, or torn; of at most 50 acts, 300 bytes. -/
import Derived.Test.YtcmbgfmbmbgbiaaRows
import Derived.WalkKit
import Derived.ProofKit
import Derived.OpenShut
import Derived.ShutString
import Derived.ChangeOld
import Derived.Below
import Derived.Test.YtcmbgfmbmbgbiaaYbDkM
import Derived.Test.YtcmbgfmbmbgbiaaQSt
namespace Go.Proofs.Ytcmbgfmbmbgbiaa.diskSafe
open Go.ChangeShapes Go.WideShapes Go.ChangeAt Go.RowKit
open Go.ChangeMaps (open_string shut_string)
set_option linter.unusedVariables false
theorem own : ownKnob Try.prog.godebug = none := by kernel_rfl
theorem laidOut : laidOutB Try.prog = true := by kernel_rfl
/-- the law, called with arguments that are there: it answers true, and writes nothing that was there -/
theorem walk (s0 : Go.Q.Slc) (s1 : Go.Q.Slc) (z1 : List Int) (s2 : Go.Q.Slc) (z2 : List Int) (s3 : Go.Q.Slc) (z3 : List Int) (w : World) (w0 : s0.len ≤ s0.cap ∧ s0.cap ≤ maxLen ∧ ∃ ys : List Go.Q.Yb.S_quaestorlaw09_Act, Go.Q.LsAt Go.Q.Yb.S_quaestorlaw09_Act.cs 3 w.heap s0 ys ∧ ∀ y ∈ ys, Go.Q.Yb.Ok_S_quaestorlaw09_Act w.heap y) (w1 : s1.len ≤ s1.cap ∧ s1.cap ≤ maxLen ∧ s1.len = z1.length ∧ Go.Q.SlcAt w.heap s1 (z1.map (Value.int .u8)) ∧ ∀ n ∈ z1, (Lit.int .u8 n).wf = true) (w2 : s2.len ≤ s2.cap ∧ s2.cap ≤ maxLen ∧ s2.len = z2.length ∧ Go.Q.SlcAt w.heap s2 (z2.map (Value.int .u8)) ∧ ∀ n ∈ z2, (Lit.int .u8 n).wf = true) (w3 : s3.len ≤ s3.cap ∧ s3.cap ≤ maxLen ∧ s3.len = z3.length ∧ Go.Q.SlcAt w.heap s3 (z3.map (Value.int .u8)) ∧ ∀ n ∈ z3, (Lit.int .u8 n).wf = true) :
    Calls Try.prog 12 #[Go.Q.Slc.v s0, Go.Q.Slc.v s1, Go.Q.Slc.v s2, Go.Q.Slc.v s3] w fun e w' => e = .returned (.bool true) ∧ Below w.heap.size w w' := by
  obtain ⟨a0, b0, ys0, L0, o0⟩ := w0
  obtain ⟨l0, S0⟩ := Go.Q.Yb.Script.of L0 (Nat.le_trans a0 b0) o0
  exact Go.Q.law_calls ((Go.Q.Yb.law09_DiskSafe_ref _ _ _ _ _ _ (Go.Q.Yb.DSafeL_ok S0 w1.2.2.1 w1.2.2.2.1 w2.2.2.1 w2.2.2.2.1 w3.2.2.1 w3.2.2.2.1 fun h' X => ⟨rfl, X⟩)).mono fun v h' ⟨r, e, k⟩ => ⟨r, e, k⟩)
set_option maxRecDepth 100000 in
theorem lifted (os : Os) (started : os.Started) (H : Type) (enc : TypeId × Value → H) :
    ReturnsInHanded {} Try.checked os 12 .any (Rows.diskSafeSpec.pre6 enc Try.prog Try.f12 Rows.diskSafeRow.domain false) (Rows.diskSafeSpec.post enc Try.prog Try.f12 false true false false) := by
  refine returnsInHanded_of_change (C := Try.checked) own started (by kernel_rfl) Try.func12
    (ChangeSpec.witness6 (enc := enc) (C := Try.checked) false ⟨#[], #[.slice none 0 0, .slice none 0 0, .slice none 0 0, .slice none 0 0], []⟩ 8 (by kernel_rfl) (by kernel_rfl) (by kernel_rfl) (by kernel_rfl)) ?_
  intro W base args ds gs before hval0 hW hcnd _
  have hval : ∀ (j : Nat) t v, Try.f12.params[j]? = some t → args[j]? = some v → Value.okWide Try.prog W .any base t v := hval0
  have hW' := hW
  obtain ⟨p, q, hA0, hV, rfl, hfz, hnd⟩ := hW
  have hA : DataW.TrodAll enc Try.prog W 0 (fun _ => true) true Try.f12.params.toList args.toList ds p := hA0
  rw [Try.params12] at hA hval
  obtain ⟨v0, vs0, d0, ds0, p0, q0, hargs, rfl, rfl, h0, r0⟩ := trodAll_cons hA
  obtain ⟨v1, vs1, d1, ds1, p1, q1, rfl, rfl, rfl, h1, r1⟩ := trodAll_cons r0
  obtain ⟨v2, vs2, d2, ds2, p2, q2, rfl, rfl, rfl, h2, r2⟩ := trodAll_cons r1
  obtain ⟨v3, vs3, d3, ds3, p3, q3, rfl, rfl, rfl, h3, r3⟩ := trodAll_cons r2
  obtain ⟨rfl, rfl, rfl⟩ := trodAll_nil r3
  obtain rfl : args = #[v0, v1, v2, v3] := by cases args; simp_all
  obtain ⟨rfl, rfl⟩ := trodVars_none hV
  have k0 := h0
  have lt0 : ∀ x ∈ p0, x.block < W.heap.size := by obtain ⟨m, hm⟩ := k0; exact DataW.trod_lt m _ _ _ hm
  obtain ⟨a0, len0, cap0, rfl⟩ := okWide_slice Try.underlying93 (hval 0 93 v0 rfl rfl)
  obtain ⟨fuel0, hf0⟩ := h0
  obtain ⟨s0, hs0, l0, m0, w0⟩ := Go.Q.open_ls (cs := Go.Q.Yb.S_quaestorlaw09_Act.cs) (w' := 3) Try.underlying93 (by kernel_rfl) (fun hq => Go.Q.Yb.open_S_quaestorlaw09_Act hq) hf0
  simp [Value.cells, Go.Q.Slc.v] at hs0
  obtain ⟨rfl, rfl, rfl⟩ := hs0
  have k1 := h1
  have lt1 : ∀ x ∈ p1, x.block < W.heap.size := by obtain ⟨m, hm⟩ := k1; exact DataW.trod_lt m _ _ _ hm
  obtain ⟨a1, len1, cap1, rfl⟩ := okWide_slice Try.underlying30 (hval 1 30 v1 rfl rfl)
  obtain ⟨fuel1, hf1⟩ := h1
  obtain ⟨s1, z1, hs1, w1⟩ := Go.Q.open_is Try.underlying30 Try.underlying5 (by kernel_rfl) hf1
  simp [Value.cells, Go.Q.Slc.v] at hs1
  obtain ⟨rfl, rfl, rfl⟩ := hs1
  have k2 := h2
  have lt2 : ∀ x ∈ p2, x.block < W.heap.size := by obtain ⟨m, hm⟩ := k2; exact DataW.trod_lt m _ _ _ hm
  obtain ⟨a2, len2, cap2, rfl⟩ := okWide_slice Try.underlying30 (hval 2 30 v2 rfl rfl)
  obtain ⟨fuel2, hf2⟩ := h2
  obtain ⟨s2, z2, hs2, w2⟩ := Go.Q.open_is Try.underlying30 Try.underlying5 (by kernel_rfl) hf2
  simp [Value.cells, Go.Q.Slc.v] at hs2
  obtain ⟨rfl, rfl, rfl⟩ := hs2
  have k3 := h3
  have lt3 : ∀ x ∈ p3, x.block < W.heap.size := by obtain ⟨m, hm⟩ := k3; exact DataW.trod_lt m _ _ _ hm
  obtain ⟨a3, len3, cap3, rfl⟩ := okWide_slice Try.underlying30 (hval 3 30 v3 rfl rfl)
  obtain ⟨fuel3, hf3⟩ := h3
  obtain ⟨s3, z3, hs3, w3⟩ := Go.Q.open_is Try.underlying30 Try.underlying5 (by kernel_rfl) hf3
  simp [Value.cells, Go.Q.Slc.v] at hs3
  obtain ⟨rfl, rfl, rfl⟩ := hs3
  clear hA0 hval0
  refine (walk s0 s1 z1 s2 z2 s3 z3 W ⟨l0, m0, w0⟩ w1 w2 w3).mono fun e W' ⟨he, bel⟩ => ?_
  subst he
  exact ⟨_, rfl, _, _, _, [], _, [], hW', trodAll_mk1 (shut_bool Try.underlying4 _), (trodAll_cons_mk (Below.trod laidOut (by kernel_rfl) (of_decide_eq_true (by kernel_rfl)) k0 bel lt0) (trodAll_cons_mk (Below.trod laidOut (by kernel_rfl) (of_decide_eq_true (by kernel_rfl)) k1 bel lt1) (trodAll_cons_mk (Below.trod laidOut (by kernel_rfl) (of_decide_eq_true (by kernel_rfl)) k2 bel lt2) (trodAll_cons_mk (Below.trod laidOut (by kernel_rfl) (of_decide_eq_true (by kernel_rfl)) k3 bel lt3) trodAll_mk0)))), rfl, bel.frame _, fun h => by cases h⟩
end Go.Proofs.Ytcmbgfmbmbgbiaa.diskSafe

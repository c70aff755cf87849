/- QuorumMeets: of the nodes that said yes to a write that is done and to a query that is done, one is the same. -/
import Derived.Test.YtoapfefofjfifaaGreatRows
import Derived.WalkKit
import Derived.ProofKit
import Derived.OpenShut
import Derived.ShutString
import Derived.ChangeOld
import Derived.Below
import Derived.Test.YtoapfefofjfifaaGreatYcMD
import Derived.Test.YtoapfefofjfifaaGreatQOpen
namespace Go.Proofs.YtoapfefofjfifaaGreat.quorumMeets
open Go.ChangeShapes Go.WideShapes Go.ChangeAt Go.RowKit
open Go.ChangeMaps (open_string shut_string)
set_option linter.unusedVariables false
theorem own : ownKnob Tryz.prog.godebug = none := by kernel_rfl
theorem laidOut : laidOutB Tryz.prog = true := by kernel_rfl
/-- the law, called with arguments that are there: it answers true, and writes nothing that was there -/
theorem walk (a0 : Int) (a1 : Int) (a2 : Int) (a3 : Int) (s4 : Go.Q.Slc) (z4 : List Int) (s5 : Go.Q.Slc) (z5 : List Int) (w : World) (w0 : (Lit.int .u8 a0).wf = true) (w1 : (Lit.int .u8 a1).wf = true) (w2 : (Lit.int .u8 a2).wf = true) (w3 : (Lit.int .u8 a3).wf = true) (w4 : s4.len ≤ s4.cap ∧ s4.cap ≤ maxLen ∧ s4.len = z4.length ∧ Go.Q.SlcAt w.heap s4 (z4.map (Value.int .u8)) ∧ ∀ n ∈ z4, (Lit.int .u8 n).wf = true) (w5 : s5.len ≤ s5.cap ∧ s5.cap ≤ maxLen ∧ s5.len = z5.length ∧ Go.Q.SlcAt w.heap s5 (z5.map (Value.int .u8)) ∧ ∀ n ∈ z5, (Lit.int .u8 n).wf = true) :
    Calls Tryz.prog 3 #[.int .u8 a0, .int .u8 a1, .int .u8 a2, .int .u8 a3, Go.Q.Slc.v s4, Go.Q.Slc.v s5] w fun e w' => e = .returned (.bool true) ∧ Below w.heap.size w w' := by
  obtain ⟨_, _, l4, A4, _⟩ := w4
  obtain ⟨_, _, l5, A5, _⟩ := w5
  exact Go.Q.law_calls ((Go.Q.Yc.law31_QuorumMeets_ref _ _ _ _ _ _ _ _ (Go.Q.Yc.Meets_ok (Go.Q.wf_u8 w0) (Go.Q.wf_u8 w1) (Go.Q.wf_u8 w2) (Go.Q.wf_u8 w3) A4 l4 A5 l5 fun h' X => ⟨rfl, X⟩)).mono fun v h' ⟨r, e, k⟩ => ⟨r, e, k⟩)
set_option maxRecDepth 100000 in
theorem lifted (os : Os) (started : os.Started) (H : Type) (enc : TypeId × Value → H) :
    ReturnsInHanded {} Tryz.checked os 3 .any (Rows.quorumMeetsSpec.pre6 enc Tryz.prog Tryz.f3 Rows.quorumMeetsRow.domain false) (Rows.quorumMeetsSpec.post enc Tryz.prog Tryz.f3 false true false false) := by
  refine returnsInHanded_of_change (C := Tryz.checked) own started (by kernel_rfl) Tryz.func3
    (ChangeSpec.witness6 (enc := enc) (C := Tryz.checked) false ⟨#[], #[.int .u8 0, .int .u8 0, .int .u8 0, .int .u8 0, .slice none 0 0, .slice none 0 0], []⟩ 12 (by kernel_rfl) (by kernel_rfl) (by kernel_rfl) (by kernel_rfl)) ?_
  intro W base args ds gs before hval0 hW hcnd _
  have hval : ∀ (j : Nat) t v, Tryz.f3.params[j]? = some t → args[j]? = some v → Value.okWide Tryz.prog W .any base t v := hval0
  have hW' := hW
  obtain ⟨p, q, hA0, hV, rfl, hfz, hnd⟩ := hW
  have hA : DataW.TrodAll enc Tryz.prog W 0 (fun _ => true) true Tryz.f3.params.toList args.toList ds p := hA0
  rw [Tryz.params3] at hA hval
  obtain ⟨v0, vs0, d0, ds0, p0, q0, hargs, rfl, rfl, h0, r0⟩ := trodAll_cons hA
  obtain ⟨v1, vs1, d1, ds1, p1, q1, rfl, rfl, rfl, h1, r1⟩ := trodAll_cons r0
  obtain ⟨v2, vs2, d2, ds2, p2, q2, rfl, rfl, rfl, h2, r2⟩ := trodAll_cons r1
  obtain ⟨v3, vs3, d3, ds3, p3, q3, rfl, rfl, rfl, h3, r3⟩ := trodAll_cons r2
  obtain ⟨v4, vs4, d4, ds4, p4, q4, rfl, rfl, rfl, h4, r4⟩ := trodAll_cons r3
  obtain ⟨v5, vs5, d5, ds5, p5, q5, rfl, rfl, rfl, h5, r5⟩ := trodAll_cons r4
  obtain ⟨rfl, rfl, rfl⟩ := trodAll_nil r5
  obtain rfl : args = #[v0, v1, v2, v3, v4, v5] := by cases args; simp_all
  obtain ⟨rfl, rfl⟩ := trodVars_none hV
  obtain ⟨a0, rfl, rfl, rfl, w0⟩ := open_int Tryz.underlying5 (hval 0 5 v0 rfl rfl) h0
  obtain ⟨a1, rfl, rfl, rfl, w1⟩ := open_int Tryz.underlying5 (hval 1 5 v1 rfl rfl) h1
  obtain ⟨a2, rfl, rfl, rfl, w2⟩ := open_int Tryz.underlying5 (hval 2 5 v2 rfl rfl) h2
  obtain ⟨a3, rfl, rfl, rfl, w3⟩ := open_int Tryz.underlying5 (hval 3 5 v3 rfl rfl) h3
  have k4 := h4
  have lt4 : ∀ x ∈ p4, x.block < W.heap.size := by obtain ⟨m, hm⟩ := k4; exact DataW.trod_lt m _ _ _ hm
  obtain ⟨a4, len4, cap4, rfl⟩ := okWide_slice Tryz.underlying22 (hval 4 22 v4 rfl rfl)
  obtain ⟨fuel4, hf4⟩ := h4
  obtain ⟨s4, z4, hs4, w4⟩ := Go.Q.open_is Tryz.underlying22 Tryz.underlying5 (by kernel_rfl) hf4
  simp [Value.cells, Go.Q.Slc.v] at hs4
  obtain ⟨rfl, rfl, rfl⟩ := hs4
  have k5 := h5
  have lt5 : ∀ x ∈ p5, x.block < W.heap.size := by obtain ⟨m, hm⟩ := k5; exact DataW.trod_lt m _ _ _ hm
  obtain ⟨a5, len5, cap5, rfl⟩ := okWide_slice Tryz.underlying22 (hval 5 22 v5 rfl rfl)
  obtain ⟨fuel5, hf5⟩ := h5
  obtain ⟨s5, z5, hs5, w5⟩ := Go.Q.open_is Tryz.underlying22 Tryz.underlying5 (by kernel_rfl) hf5
  simp [Value.cells, Go.Q.Slc.v] at hs5
  obtain ⟨rfl, rfl, rfl⟩ := hs5
  clear hA0 hval0
  refine (walk a0 a1 a2 a3 s4 z4 s5 z5 W w0 w1 w2 w3 w4 w5).mono fun e W' ⟨he, bel⟩ => ?_
  subst he
  exact ⟨_, rfl, _, _, _, [], _, [], hW', trodAll_mk1 (shut_bool Tryz.underlying4 _), (trodAll_cons_mk (shut_int Tryz.underlying5 w0) (trodAll_cons_mk (shut_int Tryz.underlying5 w1) (trodAll_cons_mk (shut_int Tryz.underlying5 w2) (trodAll_cons_mk (shut_int Tryz.underlying5 w3) (trodAll_cons_mk (Below.trod laidOut (by kernel_rfl) (of_decide_eq_true (by kernel_rfl)) k4 bel lt4) (trodAll_cons_mk (Below.trod laidOut (by kernel_rfl) (of_decide_eq_true (by kernel_rfl)) k5 bel lt5) trodAll_mk0)))))), rfl, bel.frame _, fun h => by cases h⟩
end Go.Proofs.YtoapfefofjfifaaGreat.quorumMeets

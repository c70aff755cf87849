/- The statement RlogPlays holds for every input: whatever is done to a log, and asked of it, is answered as the document says. No condition. -/
import Derived.Test.YtgldbcbnficihaaRows
import Derived.WalkKit
import Derived.ProofKit
import Derived.OpenShut
import Derived.ShutString
import Derived.ChangeOld
import Derived.Below
import Derived.Test.YtgldbcbnficihaaYaPlay4
import Derived.Test.YtgldbcbnficihaaYaPlay5
import Derived.Test.YtgldbcbnficihaaYaRlogP
namespace Go.Proofs.Ytgldbcbnficihaa.rlogPlays
open Go.ChangeShapes Go.WideShapes Go.ChangeAt Go.RowKit
open Go.ChangeMaps (open_string shut_string)
set_option linter.unusedVariables false
theorem own : ownKnob Try.prog.godebug = none := by kernel_rfl
theorem laidOut : laidOutB Try.prog = true := by kernel_rfl
/-- the law, called with arguments that are there: it answers true, and writes nothing that was there -/
theorem walk (a0 : Int) (a1 : Int) (s2 : Go.Q.Slc) (z2 : List Go.Q.Ya.Ent) (s3 : Go.Q.Slc) (z3 : List Go.Q.Ya.Act) (a4 : Int) (a5 : Int) (w : World) (w0 : (Lit.int .u64 a0).wf = true) (w1 : (Lit.int .u64 a1).wf = true) (w2 : Go.Q.Ya.ArgE w.heap.size w.heap s2 z2) (w3 : Go.Q.Ya.ArgA w.heap.size w.heap s3 z3 ∧ z3.length ≤ 9223372036854775807) (w4 : (Lit.int .u64 a4).wf = true) (w5 : (Lit.int .i64 a5).wf = true) :
    Calls Try.prog 8 #[.int .u64 a0, .int .u64 a1, Go.Q.Slc.v s2, Go.Q.Slc.v s3, .int .u64 a4, .int .i64 a5] w fun e w' => e = .returned (.bool true) ∧ Below w.heap.size w w' := by
  have hx := Go.Q.wf_u64 w0
  have ha := Go.Q.wf_u64 w4
  exact Go.Q.law_calls ((Go.Q.Ya.law23_RlogPlays_ref _ _ _ _ _ _ _ _ (Go.Q.Ya.RlogPlays_ok w2 w3.1 w3.2 hx.1 ha.1 fun h' X => ⟨rfl, X⟩)).mono fun v h' ⟨r, e, k⟩ => ⟨r, e, k⟩)
set_option maxRecDepth 100000 in
theorem lifted (os : Os) (started : os.Started) (H : Type) (enc : TypeId × Value → H) :
    ReturnsInHanded {} Try.checked os 8 .any (Rows.rlogPlaysSpec.pre6 enc Try.prog Try.f8 Rows.rlogPlaysRow.domain false) (Rows.rlogPlaysSpec.post enc Try.prog Try.f8 false true false false) := by
  refine returnsInHanded_of_change (C := Try.checked) own started (by kernel_rfl) Try.func8
    (ChangeSpec.witness6 (enc := enc) (C := Try.checked) false ⟨#[], #[.int .u64 0, .int .u64 0, .slice none 0 0, .slice none 0 0, .int .u64 0, .int .i64 0], []⟩ 8 (by kernel_rfl) (by kernel_rfl) (by kernel_rfl) (by kernel_rfl)) ?_
  intro W base args ds gs before hval0 hW hcnd _
  have hval : ∀ (j : Nat) t v, Try.f8.params[j]? = some t → args[j]? = some v → Value.okWide Try.prog W .any base t v := hval0
  have hW' := hW
  obtain ⟨p, q, hA0, hV, rfl, hfz, hnd⟩ := hW
  have hA : DataW.TrodAll enc Try.prog W 0 (fun _ => true) true Try.f8.params.toList args.toList ds p := hA0
  rw [Try.params8] at hA hval
  obtain ⟨v0, vs0, d0, ds0, p0, q0, hargs, rfl, rfl, h0, r0⟩ := trodAll_cons hA
  obtain ⟨v1, vs1, d1, ds1, p1, q1, rfl, rfl, rfl, h1, r1⟩ := trodAll_cons r0
  obtain ⟨v2, vs2, d2, ds2, p2, q2, rfl, rfl, rfl, h2, r2⟩ := trodAll_cons r1
  obtain ⟨v3, vs3, d3, ds3, p3, q3, rfl, rfl, rfl, h3, r3⟩ := trodAll_cons r2
  obtain ⟨v4, vs4, d4, ds4, p4, q4, rfl, rfl, rfl, h4, r4⟩ := trodAll_cons r3
  obtain ⟨v5, vs5, d5, ds5, p5, q5, rfl, rfl, rfl, h5, r5⟩ := trodAll_cons r4
  obtain ⟨rfl, rfl, rfl⟩ := trodAll_nil r5
  obtain rfl : args = #[v0, v1, v2, v3, v4, v5] := by cases args; simp_all
  obtain ⟨rfl, rfl⟩ := trodVars_none hV
  obtain ⟨a0, rfl, rfl, rfl, w0⟩ := open_int Try.underlying23 (hval 0 23 v0 rfl rfl) h0
  obtain ⟨a1, rfl, rfl, rfl, w1⟩ := open_int Try.underlying23 (hval 1 23 v1 rfl rfl) h1
  have k2 := h2
  have lt2 : ∀ x ∈ p2, x.block < W.heap.size := by obtain ⟨m, hm⟩ := k2; exact DataW.trod_lt m _ _ _ hm
  obtain ⟨a2, len2, cap2, rfl⟩ := okWide_slice Try.underlying52 (hval 2 52 v2 rfl rfl)
  obtain ⟨fuel2, hf2⟩ := h2
  obtain ⟨s2, z2, hs2, w2⟩ := Go.Q.Ya.open_ents Try.underlying52 Try.underlying64 Try.underlying23 Try.underlying24 Try.underlying5 rfl rfl (by kernel_rfl) (by kernel_rfl) (by kernel_rfl) (by kernel_rfl) hf2
  simp [Value.cells, Go.Q.Slc.v] at hs2
  obtain ⟨rfl, rfl, rfl⟩ := hs2
  have k3 := h3
  have lt3 : ∀ x ∈ p3, x.block < W.heap.size := by obtain ⟨m, hm⟩ := k3; exact DataW.trod_lt m _ _ _ hm
  obtain ⟨a3, len3, cap3, rfl⟩ := okWide_slice Try.underlying68 (hval 3 68 v3 rfl rfl)
  obtain ⟨fuel3, hf3⟩ := h3
  obtain ⟨s3, z3, hs3, w3⟩ := Go.Q.Ya.open_acts Try.underlying68 (by kernel_rfl) (fun hq => Go.Q.Ya.open_act Try.underlying70 Try.underlying3 Try.underlying23 Try.underlying23 rfl rfl rfl rfl (by kernel_rfl) (by kernel_rfl) (by kernel_rfl) (by kernel_rfl) (by kernel_rfl) (fun hr => Go.Q.Ya.open_ents Try.underlying52 Try.underlying64 Try.underlying23 Try.underlying24 Try.underlying5 rfl rfl (by kernel_rfl) (by kernel_rfl) (by kernel_rfl) (by kernel_rfl) hr) hq) hf3
  simp [Value.cells, Go.Q.Slc.v] at hs3
  obtain ⟨rfl, rfl, rfl⟩ := hs3
  obtain ⟨a4, rfl, rfl, rfl, w4⟩ := open_int Try.underlying23 (hval 4 23 v4 rfl rfl) h4
  obtain ⟨a5, rfl, rfl, rfl, w5⟩ := open_int Try.underlying3 (hval 5 3 v5 rfl rfl) h5
  clear hA0 hval0
  refine (walk a0 a1 s2 z2 s3 z3 a4 a5 W w0 w1 w2 w3 w4 w5).mono fun e W' ⟨he, bel⟩ => ?_
  subst he
  exact ⟨_, rfl, _, _, _, [], _, [], hW', trodAll_mk1 (shut_bool Try.underlying4 _), (trodAll_cons_mk (shut_int Try.underlying23 w0) (trodAll_cons_mk (shut_int Try.underlying23 w1) (trodAll_cons_mk (Below.trod laidOut (by kernel_rfl) (of_decide_eq_true (by kernel_rfl)) k2 bel lt2) (trodAll_cons_mk (Below.trod laidOut (by kernel_rfl) (of_decide_eq_true (by kernel_rfl)) k3 bel lt3) (trodAll_cons_mk (shut_int Try.underlying23 w4) (trodAll_cons_mk (shut_int Try.underlying3 w5) trodAll_mk0)))))), rfl, bel.frame _, fun h => by cases h⟩
theorem over : Rows.rlogPlaysRow.holds Try.pinned (OpenSpec.ofChange Rows.rlogPlaysSpec) :=
  OpenClaim.holds_of_wide 8 Try.f8 rfl rfl rfl rfl rfl rfl rfl ⟨rfl, rfl, rfl, rfl, rfl⟩ rfl rfl rfl rfl rfl (by kernel_rfl) Try.func8 (by kernel_rfl)
    (of_decide_eq_true (by kernel_rfl)) (by unfold Func.isWrapper; first | (rw [if_pos (by decide +kernel)]; kernel_rfl) | (rw [if_neg (by decide +kernel)]; exact ⟨rfl, rfl⟩))
    (fun os started H enc _ => lifted os started H enc)
/-- the statement -/
theorem proved : Rows.RlogPlaysSaid := over
#print axioms proved
end Go.Proofs.Ytgldbcbnficihaa.rlogPlays

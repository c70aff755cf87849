/- A raft member that takes a message answers as the law says: it stays well formed, and what it keeps and sends is what the state it was in calls for. -/
import Derived.Test.YthjafnfadiijgaaRows
import Derived.WalkKit
import Derived.ProofKit
import Derived.OpenShut
import Derived.ShutString
import Derived.ChangeOld
import Derived.Below
import Derived.Test.YthjafnfadiijgaaYhMo
import Derived.Test.YthjafnfadiijgaaQSt
namespace Go.Proofs.Ythjafnfadiijgaa.raftTakes
open Go.ChangeShapes Go.WideShapes Go.ChangeAt Go.RowKit
open Go.ChangeMaps (open_string shut_string)
set_option linter.unusedVariables false
theorem own : ownKnob Try.prog.godebug = none := by kernel_rfl
theorem laidOut : laidOutB Try.prog = true := by kernel_rfl
/-- the law, called with arguments that are there: it answers true, and writes nothing that was there -/
theorem walk (a0 : Int) (a1 : Int) (a2 : Int) (a3 : Int) (s4 : Go.Q.Slc) (z4 : List Int) (s5 : Go.Q.Slc) (w : World) (w0 : (Lit.int .i64 a0).wf = true) (w1 : (Lit.int .i64 a1).wf = true) (w2 : (Lit.int .u64 a2).wf = true) (w3 : (Lit.int .i64 a3).wf = true) (w4 : s4.len ≤ s4.cap ∧ s4.cap ≤ maxLen ∧ s4.len = z4.length ∧ Go.Q.SlcAt w.heap s4 (z4.map (Value.int .i64)) ∧ ∀ n ∈ z4, (Lit.int .i64 n).wf = true) (w5 : s5.len ≤ s5.cap ∧ s5.cap ≤ maxLen ∧ ∃ ys : List Go.Q.Yh.S_api_Msg, Go.Q.LsAt Go.Q.Yh.S_api_Msg.cs 8 w.heap s5 ys ∧ ∀ y ∈ ys, Go.Q.Yh.Ok_S_api_Msg w.heap y) :
    Calls Try.prog 4 #[.int .i64 a0, .int .i64 a1, .int .u64 a2, .int .i64 a3, Go.Q.Slc.v s4, Go.Q.Slc.v s5] w fun e w' => e = .returned (.bool true) ∧ Below w.heap.size w w' := by
  obtain ⟨_, _, ys, A, o⟩ := w5
  exact Go.Q.law_calls ((Go.Q.Yh.law26_RaftTakes_ref _ _ _ _ _ _ _ _ (Go.Q.Yh.RaftTakes_ok (Go.Q.wf_u64 w2) (Go.Q.wf_i64 w3) w4.2.2.2.1 w4.2.2.1 A o fun h' X => ⟨rfl, X⟩)).mono fun v h' ⟨r, e, k⟩ => ⟨r, e, k⟩)
set_option maxRecDepth 100000 in
theorem lifted (os : Os) (started : os.Started) (H : Type) (enc : TypeId × Value → H) :
    ReturnsInHanded {} Try.checked os 4 .any (Rows.raftTakesSpec.pre6 enc Try.prog Try.f4 Rows.raftTakesRow.domain false) (Rows.raftTakesSpec.post enc Try.prog Try.f4 false true false false) := by
  refine returnsInHanded_of_change (C := Try.checked) own started (by kernel_rfl) Try.func4
    (ChangeSpec.witness6 (enc := enc) (C := Try.checked) false ⟨#[], #[.int .i64 0, .int .i64 0, .int .u64 0, .int .i64 0, .slice none 0 0, .slice none 0 0], []⟩ 12 (by kernel_rfl) (by kernel_rfl) (by kernel_rfl) (by kernel_rfl)) ?_
  intro W base args ds gs before hval0 hW hcnd _
  have hval : ∀ (j : Nat) t v, Try.f4.params[j]? = some t → args[j]? = some v → Value.okWide Try.prog W .any base t v := hval0
  have hW' := hW
  obtain ⟨p, q, hA0, hV, rfl, hfz, hnd⟩ := hW
  have hA : DataW.TrodAll enc Try.prog W 0 (fun _ => true) true Try.f4.params.toList args.toList ds p := hA0
  rw [Try.params4] at hA hval
  obtain ⟨v0, vs0, d0, ds0, p0, q0, hargs, rfl, rfl, h0, r0⟩ := trodAll_cons hA
  obtain ⟨v1, vs1, d1, ds1, p1, q1, rfl, rfl, rfl, h1, r1⟩ := trodAll_cons r0
  obtain ⟨v2, vs2, d2, ds2, p2, q2, rfl, rfl, rfl, h2, r2⟩ := trodAll_cons r1
  obtain ⟨v3, vs3, d3, ds3, p3, q3, rfl, rfl, rfl, h3, r3⟩ := trodAll_cons r2
  obtain ⟨v4, vs4, d4, ds4, p4, q4, rfl, rfl, rfl, h4, r4⟩ := trodAll_cons r3
  obtain ⟨v5, vs5, d5, ds5, p5, q5, rfl, rfl, rfl, h5, r5⟩ := trodAll_cons r4
  obtain ⟨rfl, rfl, rfl⟩ := trodAll_nil r5
  obtain rfl : args = #[v0, v1, v2, v3, v4, v5] := by cases args; simp_all
  obtain ⟨rfl, rfl⟩ := trodVars_none hV
  obtain ⟨a0, rfl, rfl, rfl, w0⟩ := open_int Try.underlying3 (hval 0 3 v0 rfl rfl) h0
  obtain ⟨a1, rfl, rfl, rfl, w1⟩ := open_int Try.underlying3 (hval 1 3 v1 rfl rfl) h1
  obtain ⟨a2, rfl, rfl, rfl, w2⟩ := open_int Try.underlying22 (hval 2 22 v2 rfl rfl) h2
  obtain ⟨a3, rfl, rfl, rfl, w3⟩ := open_int Try.underlying3 (hval 3 3 v3 rfl rfl) h3
  have k4 := h4
  have lt4 : ∀ x ∈ p4, x.block < W.heap.size := by obtain ⟨m, hm⟩ := k4; exact DataW.trod_lt m _ _ _ hm
  obtain ⟨a4, len4, cap4, rfl⟩ := okWide_slice Try.underlying35 (hval 4 35 v4 rfl rfl)
  obtain ⟨fuel4, hf4⟩ := h4
  obtain ⟨s4, z4, hs4, w4⟩ := Go.Q.open_is Try.underlying35 Try.underlying3 (by kernel_rfl) hf4
  simp [Value.cells, Go.Q.Slc.v] at hs4
  obtain ⟨rfl, rfl, rfl⟩ := hs4
  have k5 := h5
  have lt5 : ∀ x ∈ p5, x.block < W.heap.size := by obtain ⟨m, hm⟩ := k5; exact DataW.trod_lt m _ _ _ hm
  obtain ⟨a5, len5, cap5, rfl⟩ := okWide_slice Try.underlying36 (hval 5 36 v5 rfl rfl)
  obtain ⟨fuel5, hf5⟩ := h5
  obtain ⟨s5, hs5, l5, m5, w5⟩ := Go.Q.open_ls (cs := Go.Q.Yh.S_api_Msg.cs) (w' := 8) Try.underlying36 (by kernel_rfl) (fun hq => Go.Q.Yh.open_S_api_Msg hq) hf5
  simp [Value.cells, Go.Q.Slc.v] at hs5
  obtain ⟨rfl, rfl, rfl⟩ := hs5
  clear hA0 hval0
  refine (walk a0 a1 a2 a3 s4 z4 s5 W w0 w1 w2 w3 w4 ⟨l5, m5, w5⟩).mono fun e W' ⟨he, bel⟩ => ?_
  subst he
  exact ⟨_, rfl, _, _, _, [], _, [], hW', trodAll_mk1 (shut_bool Try.underlying4 _), (trodAll_cons_mk (shut_int Try.underlying3 w0) (trodAll_cons_mk (shut_int Try.underlying3 w1) (trodAll_cons_mk (shut_int Try.underlying22 w2) (trodAll_cons_mk (shut_int Try.underlying3 w3) (trodAll_cons_mk (Below.trod laidOut (by kernel_rfl) (of_decide_eq_true (by kernel_rfl)) k4 bel lt4) (trodAll_cons_mk (Below.trod laidOut (by kernel_rfl) (of_decide_eq_true (by kernel_rfl)) k5 bel lt5) trodAll_mk0)))))), rfl, bel.frame _, fun h => by cases h⟩
end Go.Proofs.Ythjafnfadiijgaa.raftTakes

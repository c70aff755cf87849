/- What any query asks for of any pieces, by any horizon, and its rows, are the document's, or it is refused with the document's error; under the law's own bounds: at most 40 pieces, texts of at most 400 bytes. -/
import Derived.Test.YtidhlagdagbggaaGreatRows
import Derived.WalkKit
import Derived.ProofKit
import Derived.OpenShut
import Derived.ShutString
import Derived.ChangeOld
import Derived.Below
import Derived.Test.YtidhlagdagbggaaGreatQrD
import Derived.Test.YtidhlagdagbggaaGreatYzOpen
import Derived.Test.YtidhlagdagbggaaGreatQSt
import Derived.Test.YtidhlagdagbggaaGreatQOpen
namespace Go.Proofs.YtidhlagdagbggaaGreat.queryRuns
open Go.ChangeShapes Go.WideShapes Go.ChangeAt Go.RowKit
open Go.ChangeMaps (open_string shut_string)
set_option linter.unusedVariables false
theorem own : ownKnob Tryz.prog.godebug = none := by kernel_rfl
theorem laidOut : laidOutB Tryz.prog = true := by kernel_rfl
/-- the law, called with arguments that are there: it answers true, and writes nothing that was there -/
theorem walk (n0 : Go.Q.Yz.S_api_Query) (s1 : Go.Q.Slc) (a2 : Int) (w : World) (w0 : Go.Q.Yz.Ok_S_api_Query w.heap n0) (w1 : s1.len ≤ s1.cap ∧ s1.cap ≤ maxLen ∧ ∃ ys : List Go.Q.Yz.S_api_Piece, Go.Q.LsAt Go.Q.Yz.S_api_Piece.cs 5 w.heap s1 ys ∧ ∀ y ∈ ys, Go.Q.Yz.Ok_S_api_Piece w.heap y) (w2 : (Lit.int .i64 a2).wf = true) :
    Calls Tryz.prog 3 #[.agg (Go.Q.Yz.S_api_Query.cs n0).toArray, Go.Q.Slc.v s1, .int .i64 a2] w fun e w' => e = .returned (.bool true) ∧ Below w.heap.size w w' := by
  obtain ⟨cp1, cp2, ys, A, o⟩ := w1
  exact Go.Q.law_calls ((Go.Q.Yz.law19_QueryRuns_ref _ _ _ _ _ (Go.Q.Yz.QueryRuns_ok A (fun p hp => ⟨Go.Q.wf_i64 (o p hp).2.2.1, Go.Q.wf_i64 (o p hp).2.1⟩) (Go.Q.wf_i64 w0.2.2.2.2) fun h' X => ⟨rfl, X⟩)).mono fun v h' ⟨r, e, k⟩ => ⟨r, e, k⟩)
set_option maxRecDepth 100000 in
theorem lifted (os : Os) (started : os.Started) (H : Type) (enc : TypeId × Value → H) :
    ReturnsInHanded {} Tryz.checked os 3 .any (Rows.queryRunsSpec.pre6 enc Tryz.prog Tryz.f3 Rows.queryRunsRow.domain false) (Rows.queryRunsSpec.post enc Tryz.prog Tryz.f3 false true false false) := by
  refine returnsInHanded_of_change (C := Tryz.checked) own started (by kernel_rfl) Tryz.func3
    (ChangeSpec.witness6 (enc := enc) (C := Tryz.checked) false ⟨#[], #[.agg #[.string ByteArray.empty, .int .i64 0, .int .i64 0, .int .i64 0, .int .i64 0], .slice none 0 0, .int .i64 0], []⟩ 12 (by kernel_rfl) (by kernel_rfl) (by kernel_rfl) (by kernel_rfl)) ?_
  intro W base args ds gs before hval0 hW hcnd _
  have hval : ∀ (j : Nat) t v, Tryz.f3.params[j]? = some t → args[j]? = some v → Value.okWide Tryz.prog W .any base t v := hval0
  have hW' := hW
  obtain ⟨p, q, hA0, hV, rfl, hfz, hnd⟩ := hW
  have hA : DataW.TrodAll enc Tryz.prog W 0 (fun _ => true) true Tryz.f3.params.toList args.toList ds p := hA0
  rw [Tryz.params3] at hA hval
  obtain ⟨v0, vs0, d0, ds0, p0, q0, hargs, rfl, rfl, h0, r0⟩ := trodAll_cons hA
  obtain ⟨v1, vs1, d1, ds1, p1, q1, rfl, rfl, rfl, h1, r1⟩ := trodAll_cons r0
  obtain ⟨v2, vs2, d2, ds2, p2, q2, rfl, rfl, rfl, h2, r2⟩ := trodAll_cons r1
  obtain ⟨rfl, rfl, rfl⟩ := trodAll_nil r2
  obtain rfl : args = #[v0, v1, v2] := by cases args; simp_all
  obtain ⟨rfl, rfl⟩ := trodVars_none hV
  have k0 := h0
  have lt0 : ∀ x ∈ p0, x.block < W.heap.size := by obtain ⟨m, hm⟩ := k0; exact DataW.trod_lt m _ _ _ hm
  obtain ⟨c0, rfl⟩ := Go.Q.okWide_st Tryz.underlying23 (hval 0 23 v0 rfl rfl)
  obtain ⟨fuel0, hf0⟩ := h0
  obtain ⟨n0, hn0, w0⟩ := Go.Q.Yz.open_S_api_Query hf0
  obtain rfl := Go.Q.agg_eq hn0
  have k1 := h1
  have lt1 : ∀ x ∈ p1, x.block < W.heap.size := by obtain ⟨m, hm⟩ := k1; exact DataW.trod_lt m _ _ _ hm
  obtain ⟨a1, len1, cap1, rfl⟩ := okWide_slice Tryz.underlying24 (hval 1 24 v1 rfl rfl)
  obtain ⟨fuel1, hf1⟩ := h1
  obtain ⟨s1, hs1, l1, m1, w1⟩ := Go.Q.open_ls (cs := Go.Q.Yz.S_api_Piece.cs) (w' := 5) Tryz.underlying24 (by kernel_rfl) (fun hq => Go.Q.Yz.open_S_api_Piece hq) hf1
  simp [Value.cells, Go.Q.Slc.v] at hs1
  obtain ⟨rfl, rfl, rfl⟩ := hs1
  obtain ⟨a2, rfl, rfl, rfl, w2⟩ := open_int Tryz.underlying2 (hval 2 2 v2 rfl rfl) h2
  clear hA0 hval0
  refine (walk n0 s1 a2 W w0 ⟨l1, m1, w1⟩ w2).mono fun e W' ⟨he, bel⟩ => ?_
  subst he
  exact ⟨_, rfl, _, _, _, [], _, [], hW', trodAll_mk1 (shut_bool Tryz.underlying4 _), (trodAll_cons_mk (Below.trod laidOut (by kernel_rfl) (of_decide_eq_true (by kernel_rfl)) k0 bel lt0) (trodAll_cons_mk (Below.trod laidOut (by kernel_rfl) (of_decide_eq_true (by kernel_rfl)) k1 bel lt1) (trodAll_cons_mk (shut_int Tryz.underlying2 w2) trodAll_mk0))), rfl, bel.frame _, fun h => by cases h⟩
end Go.Proofs.YtidhlagdagbggaaGreat.queryRuns

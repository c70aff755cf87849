/- A part of the proof of statements of this seat: lemmas, no statement of their own. -/
import Derived.Test.YtoapfefofjfifaaGreatYcAM
set_option linter.unusedVariables false
set_option linter.unusedSimpArgs false
/- Quorum: a node says yes to a query of nothing. -/
namespace Go.Q.Yc
abbrev zCmd : S_api_Command := ⟨0, ByteArray.empty, 0, ([] : List Int), nilS, 0⟩
abbrev qop (n y : Slc) (d : Bool) : S_api_Op := ⟨2, 2, ByteArray.empty, nilS, zQ, zCmd, 0, n, y, 0, d, 0, nilS⟩
abbrev wop (n y : Slc) (d : Bool) : S_api_Op := ⟨1, 1, ByteArray.empty, nilS, zQ, zCmd, 0, n, y, 0, d, 0, nilS⟩
theorem bareQ {n y : Slc} {d : Bool} : Bare (qop n y d) := ⟨rfl, rfl, rfl⟩
theorem YesJQ_ok {h : Heap} {g : Nat} {n y : Slc} {ns ys : List Int} {k : Bool → Heap → Prop} (O : OpAt h g (qop n y false) ns ys)
    (H : ∀ h', OpAt h' g (qop n y (decide (needs 2 ns.length ≤ ys.length))) ns ys → YesK h h' g y y → k true h') : quorum_Desk_Yes_j2 (some ⟨g, 0, none⟩) k h := by
  have ln : y.len = ys.length := by have := O.Y.len; simpa using this
  have nn : n.len = ns.length := by have := O.N.len; simpa using this
  have n1 := O.n
  unfold quorum_Desk_Yes_j2
  refine ⟨⟨g, 0, none⟩, rfl, y, by rw [add_mk, O.B.cell]; rfl, qop n y false, CellsAt.of_blk O.B, Needs_ok (by show n.len ≤ _; rw [nn]; simp only [maxLen]; omega) fun h1 X1 => ?_⟩
  have O1 := O.ext X1
  have Y1 : YesK h h1 g y y := YesK.of_ext X1
  rw [show (qop n y false).f_Nodes.len = ns.length from nn, show (qop n y false).f_Kind = 2 from rfl]
  refine ⟨by rw [add_mk, O1.B.cell]; rfl, ?_⟩
  rw [ln]
  by_cases c : needs 2 ns.length ≤ ys.length
  · rw [if_neg (by rw [decide_eq_true_eq]; omega)]
    refine ⟨_, by rw [add_mk]; exact O1.B.wr (by show _ < 33; omega), rfl, ?_⟩
    rw [add_mk]
    obtain ⟨O2, Y2⟩ := O1.setB (i := 0 + 30) (v := .bool true) (x' := qop n y true) rfl rfl rfl bareQ
    generalize setH h1 ⟨g, 0 + 30, none⟩ (.bool true) = h2 at *
    refine ⟨2, by rw [add_mk, O2.B.cell]; rfl, ?_⟩
    rw [if_pos (by decide)]
    refine ⟨zQ, by rw [add_mk]; exact O2.B.part (n := 5) rfl, nilS, by rw [add_mk, O2.B.cell]; rfl, 0, by rw [add_mk, O2.B.cell]; rfl, Run_ok fun h3 X3 => ?_⟩
    have O3 := O2.ext X3
    have Y3 : YesK h2 h3 g y y := YesK.of_ext X3
    refine ⟨_, by rw [add_mk]; exact O3.B.wr (by show _ < 33; omega), rfl, ?_⟩
    rw [add_mk]
    obtain ⟨O4, Y4⟩ := O3.setB (i := 0 + 32) (v := Slc.v nilS) (x' := qop n y true) rfl rfl rfl bareQ
    generalize setH h3 ⟨g, 0 + 32, none⟩ (Slc.v nilS) = h4 at *
    refine ⟨_, by rw [add_mk]; exact O4.B.wr (by show _ < 33; omega), rfl, ?_⟩
    rw [add_mk]
    obtain ⟨O5, Y5⟩ := O4.setB (i := 0 + 31) (v := .int .i64 0) (x' := qop n y true) rfl rfl rfl bareQ
    generalize setH h4 ⟨g, 0 + 31, none⟩ (.int .i64 0) = h5 at *
    unfold quorum_Desk_Yes_j3
    rw [decide_eq_true c] at H
    exact H h5 O5 ((((Y1.trans Y2).trans Y3).trans Y4).trans Y5)
  · rw [if_pos (by rw [decide_eq_true_eq]; omega)]
    rw [decide_eq_false c] at H
    exact H h1 O1 Y1
theorem YesQ_ok {nn node : Int} {k : Bool → Heap → Prop} {h : Heap} {r m : Nat} {L : List (Int × Nat)} {g : Nat} {n y : Slc} {d : Bool} {ns ys : List Int} (D : DeskAt h r m L) (hg : mget L nn = some g) (O : OpAt h g (qop n y d) ns ys) (y1 : ys.length < 1000)
    (H0 : ¬ (d = false ∧ node ∈ ns ∧ node ∉ ys) → k false h)
    (H1 : d = false → node ∈ ns → node ∉ ys → ∀ y' h', OpAt h' g (qop n y' (decide (needs 2 ns.length ≤ ys.length + 1))) ns (ys ++ [node]) → YesK h h' g y y' → k true h') :
    quorum_Desk_Yes (some ⟨r, 0, none⟩) nn node nilS k h := by
  have fo : ∀ (o : Option Addr), quorum_Desk_Yes_g1 node nilS o true k h = k false h := fun o => by unfold quorum_Desk_Yes_g1; rw [if_pos rfl]
  unfold quorum_Desk_Yes
  refine open_ok D hg O ?_
  by_cases c : d = false ∧ node ∈ ns
  · rw [decide_eq_true c, if_neg (by simp)]
    refine ⟨⟨g, 0, none⟩, rfl, y, by rw [add_mk, O.B.cell]; rfl, Has_ok (Ints.row O.Y) (by omega) ?_⟩
    by_cases e : node ∈ ys
    · rw [decide_eq_true e]
      show quorum_Desk_Yes_g1 node nilS (some ⟨g, 0, none⟩) true k h
      rw [fo]; exact H0 fun q => q.2.2 e
    rw [decide_eq_false e]
    unfold quorum_Desk_Yes_g1
    rw [if_neg (by simp)]
    refine ⟨⟨g, 0, none⟩, rfl, y, by rw [add_mk, O.B.cell]; rfl, _, _, rfl, rfl, ?_⟩
    have X1 := Ext.push h (.cells ([.int .i64 node] : List Value).toArray 3) (Nat.le_refl _)
    generalize h.push (.cells ([.int .i64 node] : List Value).toArray 3) = h1 at *
    have O1 := O.ext X1
    have Y1 : YesK h h1 g y y := YesK.of_ext X1
    refine App_yes O1 fun y' h2 R2 O2 Y2 d2 => ?_
    refine ⟨_, by rw [add_mk]; exact O2.B.wr (by show _ < 33; omega), rfl, ?_⟩
    rw [add_mk, Nat.zero_add]
    obtain ⟨O3, s3, o3⟩ := O2.setY R2 d2 (by rw [List.length_append]; simp only [List.length_singleton]; omega)
    generalize setH h2 ⟨g, 28, none⟩ (Slc.v y') = h3 at *
    have Y3 : YesK h2 h3 g y' y' := ⟨by omega, fun i _ hi _ => o3 i hi, fun b hb => .inl hb⟩
    refine ⟨2, by rw [add_mk, O3.B.cell]; rfl, ?_⟩
    rw [if_pos (by decide)]
    refine ⟨nilS, by rw [add_mk, O3.B.cell]; rfl, _, _, rfl, rfl, ?_⟩
    have V := Blk.push h3 [Slc.v nilS, Slc.v nilS] 30
    have X4 := Ext.push h3 (.cells ([Slc.v nilS, Slc.v nilS] : List Value).toArray 30) (Nat.le_refl _)
    generalize h3.push (.cells ([Slc.v nilS, Slc.v nilS] : List Value).toArray 30) = h4 at *
    refine Merge_ok (m := 2) (V.slc (o := 0) (n := 2) rfl) rfl (by omega) fun h5 X5 => ?_
    have X35 := X4.trans (X5.mono X4.size)
    have O5 := O3.ext X35
    have Y5 : YesK h3 h5 g y' y' := YesK.of_ext X35
    refine ⟨_, by rw [add_mk]; exact O5.B.wr (by show _ < 33; omega), rfl, ?_⟩
    rw [add_mk]
    have O5' : OpAt h5 g (qop n y' false) ns (ys ++ [node]) := by
      have := O5
      rw [c.1] at this
      exact this
    obtain ⟨O6, Y6⟩ := O5'.setB (i := 0 + 3) (v := Slc.v nilS) (x' := qop n y' false) rfl rfl rfl bareQ
    generalize setH h5 ⟨g, 0 + 3, none⟩ (Slc.v nilS) = h6 at *
    refine YesJQ_ok O6 fun h7 O7 Y7 => ?_
    rw [show (ys ++ [node]).length = ys.length + 1 from by simp] at O7
    exact H1 c.1 c.2 e y' h7 O7 (((((Y1.trans Y2).trans Y3).trans Y5).trans Y6).trans Y7)
  · rw [decide_eq_false c, if_pos (by simp)]
    show quorum_Desk_Yes_g1 node nilS (some ⟨g, 0, none⟩) true k h
    rw [fo]; exact H0 fun q => c ⟨q.1, q.2.1⟩
/-- the end of an op, whatever it is -/
theorem ResAny {n : Int} {k : S_api_Op × Int → Heap → Prop} {h : Heap} {r m : Nat} {L : List (Int × Nat)} {g : Nat} {x : S_api_Op} {ns ys : List Int} (D : DeskAt h r m L) (hg : mget L n = some g) (O : OpAt h g x ns ys)
    (H : ∀ rr h', Ext h.size h h' → (rr.2 = 0 → x.f_Done = true ∧ Row h.size h' 3 1 rr.1.f_Yes (ints ys)) → k rr h') : quorum_Desk_Result (some ⟨r, 0, none⟩) n k h := by
  refine Res_ok D hg O (fun _ h' X => H _ h' X fun e => absurd e (by decide)) fun hd n' y' h' _ Ry X => H _ h' X fun _ => ⟨hd, Ry⟩
end Go.Q.Yc
